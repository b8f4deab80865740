/- Lemmas for the proof of WholeRules (the card is in the file ..WholeRulesCard); each lemma names its own conditions. -/
import Derived.Test.YtgnflmdpalmejaaGreatDoorA04
import Derived.Great.BuildSlice
import Derived.Lib.ConvBytes
import Derived.Lib.SliceRun
namespace Go.Proofs.YtgnflmdpalmejaaGreatDoor
open And renaming intro->bI
open _root_.Array renaming getElem?_eq_some_iff->JQ,getElem?_toList->OH,length_toList->Mx,toArray_toList->Bl,toList_push->Sl
open Bool renaming and_eq_true->bq,false->X,true->Z
open Go.Act renaming put->uB
open Go renaming Addr->aK,Calls->aF,TypeId->bM,Value->ak,World->Y,bodyPost_ret->eX,run_underlying->G8,wpAnyH->yu,wp_region_held_drew->iA
open Go.Ending renaming returned->aI
open Go.Fence renaming wide->QL
open Go.Instr renaming index->KW,lookup->Jq,mapUpdate->NC
open Go.IntKind renaming i64->D
open Go.MapKept renaming run_getObj_map->KF,run_setObj_map->acA
open Go.Obj renaming cells->ag
open Go.Oper renaming wp->yt
open Go.Region renaming ready->RJ,wanted->sZ
open Go.Result renaming andThen->yl
open Go.RowKit renaming Below->aj
open Go.RowKit.Below renaming heap_alloc->nK,heap_setCell->jm,refl->aN
open Go.Value renaming agg->aD,bool->ax,formed->WC,int->C,ownBlock->Hd,pointer->aQ,slice->O,string->au,tuple->bz
open Go.World renaming alloc->pJ,cell?->M6,ownsRow_nil->ng,setCell->Bp,size_alloc->aW
open Inhabited renaming default->ay
open List renaming cons_append->o6,flatMap_cons->Hq,getD->dO,getD_cons_zero->Ih,getElem?_cons_succ->iX,getElem?_cons_zero->iI,getElem?_toArray->iH,getElem_cons_succ->uE,getElem_cons_zero->uD,getElem_toArray->uC,length_append->eB,length_cons->iP,length_nil->pV,length_set->U0,length_singleton->mf,mem_append->pW,mem_cons->jZ,mem_of_getElem?->Jr,mem_or_eq_of_mem_set->Sm,mem_singleton->lF,nil_append->wF,not_mem_nil->nJ,setIfInBounds_toArray->pY,set_cons_succ->oP,set_cons_zero->oh,size_toArray->AX,take_of_length_le->o7
open Nat renaming eq_zero_or_pos->sw,le_refl->aC,le_trans->ja,lt_of_lt_of_le->yA,lt_or_ge->jl
open Ne renaming symm->EO
open Option renaming none->J,some->N
open Go.Proofs.Tryz renaming prog->aa
open Go.RowKit Go.Lib Go.Proofs.Tryz
set_option maxRecDepth 100000
set_option maxHeartbeats 32000000
set_option linter.unusedVariables false
set_option linter.unusedSimpArgs false
variable{A:Option aK}{B B' S b base base' bf c g j jN jb k mi mr n n0 q:Nat}{R:Prop}{T e t:bM}{W W' w w':Y}{u v:ak}{xs:List ak}
section
variable{a b c:Y}
theorem bQ(w:Y):aj w w w:=aN _ _
theorem bJ(h:aj a a b)(o:Obj):aj a a (b.alloc o):=h.alloc h.size o
theorem kD(h:aj a a b):aj a a b.drew:=below_drewN h 1
theorem EN(h:aj a a b)(n:Nat):aj a a (b.drewN n):=below_drewN h n
theorem bS(k:aj b b c)(h:aj a a b):aj a a c:=aU h k
theorem XK(h:aj a a b){p:aK}(hp:a.heap.size<=p.block)(v:ak):aj a a (b.setCell p v):=h.setCell hp v
end
def R1(w:Y)(e:Ending)(w':Y):Prop:=(∃a:Int,e=aI a)/\aj w w w'
def RI(w:Y)(e:Ending)(w':Y):Prop:=(∃a b:Int,e=aI (bz #[a,b]))/\aj w w w'
def R3(w:Y)(e:Ending)(w':Y):Prop:=(∃a b c:Int,e=aI (bz #[a,b,c]))/\aj w w w'
def R4(w:Y)(e:Ending)(w':Y):Prop:=(∃a b c d:Int,e=aI (bz #[a,b,c,d]))/\aj w w w'
def RB(w:Y)(e:Ending)(w':Y):Prop:=(∃b:Bool,e=aI b)/\aj w w w'
theorem R1.mk(a:Int)(h:aj w w w':=by(repeat first|exact bQ _|assumption|refine bS Jz ?_|refine bJ ?_ _|refine kD ?_|refine EN ?_ _)):R1 w (aI a) w':=⟨⟨a,rfl⟩,h⟩
theorem RI.mk(a b:Int)(h:aj w w w':=by(repeat first|exact bQ _|assumption|refine bS Jz ?_|refine bJ ?_ _|refine kD ?_|refine EN ?_ _)):RI w (aI (bz #[a,b])) w':=⟨⟨a,b,rfl⟩,h⟩
theorem R3.mk(a b c:Int)(h:aj w w w':=by(repeat first|exact bQ _|assumption|refine bS Jz ?_|refine bJ ?_ _|refine kD ?_|refine EN ?_ _)):R3 w (aI (bz #[a,b,c])) w':=⟨⟨a,b,c,rfl⟩,h⟩
theorem R4.mk(a b c d:Int)(h:aj w w w':=by(repeat first|exact bQ _|assumption|refine bS Jz ?_|refine bJ ?_ _|refine kD ?_|refine EN ?_ _)):R4 w (aI (bz #[a,b,c,d])) w':=⟨⟨a,b,c,d,rfl⟩,h⟩
theorem RB.mk(b:Bool)(h:aj w w w':=by(repeat first|exact bQ _|assumption|refine bS Jz ?_|refine bJ ?_ _|refine kD ?_|refine EN ?_ _)):RB w (aI b) w':=⟨⟨b,rfl⟩,h⟩
theorem aes(n:Int)(w:Y):aF aa 128 #[n] w (RB w):=by
 cases h1:decide (n>= -1000000000000);all_goals
  go_enter func128,ntmps128;go_wp2_with fail;go_ret;exact RB.mk _
theorem ay7(n:Int)(w:Y):aF aa 193 #[n] w (RI w):=by go_enter func193,ntmps193;go_wp2_with(refine(aes n _).mono ?_;rintro e w1 ⟨⟨b,rfl⟩,hb⟩;dsimp only);all_goals(go_ret2;exact RI.mk _ _)
theorem ay8(n num:Int)(w:Y):aF aa 129 #[n,num,C D 1000000] w (RI w):=by
 go_enter func129,ntmps129;go_wp2_with fail;all_goals go_quiet(fail)
 all_goals go_wp2_with(refine(ay7 _ _).mono ?_;rintro e w1 ⟨⟨a,b,rfl⟩,hb⟩;dsimp only)
 all_goals(go_ret2;exact RI.mk _ _)
theorem ay9(n rate:Int)(w:Y):aF aa 67 #[n,rate] w (RI w):=by
 cases h1:decide (rate<1);all_goals
  go_enter func67,ntmps67;go_wp2_with(first|(refine(aes n _).mono ?_;rintro e w1 ⟨⟨b,rfl⟩,hb⟩;cases b)|(refine(ay8 n _ _).mono ?_;rintro e w2 ⟨⟨a,b,rfl⟩,hb⟩;dsimp only));all_goals(go_ret2;exact RI.mk _ _)
theorem aza(n:Int)(w:Y)(h1: -25567<=n)(h2:n<=84005):aF aa 113 #[C D n] w (atS n w):=by
 have HV:=G (SS n w);have hv:BU n=Z:=by unfold BU;rw[decide_eq_true h1,decide_eq_true h2];rfl
 rw[hv] at HV;clear hv;have ht:=atT n;obtain⟨q,hq⟩:∃q,n.tdiv 366=q:=⟨_,rfl⟩;rw[hq] at ht;have hc:=atU (n:=n) (q:=q) h1 h2 (by
  by_cases h:0<=n;·exact .inl ⟨h,by rw[<-ht.1 h]⟩
  exact .inr ⟨I,ht.2 I⟩)
 have HC:=G hc;have qb1: -100<=q:=I;have qb2:q<=300:=I;clear ht hc;go_enter func113,ntmps113;go_wp2_with fail;refine HV.E.mono ?_;rintro e wx ⟨rfl,rfl⟩;go_wp2_with fail;clear hq;go_loop [2] (λv=>∃y:Int,v=C D y/\1899<=y/\y<=2199/\(1900<=y->lq y<=n)) (λv=>(2200-intOf v).toNat);case atStart=>exact⟨_,rfl,HC.E.1,HC.E.2.1,HC.E.2.2⟩
 clear HC qb1 qb2;obtain⟨y,rfl,Co,Eo,hyb⟩:=hrel;have Kr:=G hyb;clear hyb;by_cases Jf:y<1900
 ·have k1:decide (y<1900)=Z:=by rw[decide_eq_true_eq];exact Jf
  obtain rfl:y=1899:=I;clear Co Eo Jf;go_wp2_with fail;go_round;case rel=>exact⟨1900,rfl,I,I,λ_=>by have e1:lq 1900= -25567:=aL;omega⟩
  simp[intOf]
 have xH:=G (acZ (y+1) w I I);have HYN:=G (Kr.E I);have HLS:=G (λh=>atV (y:=y+1) (n:=n) h h2);by_cases fO:lq (y+1)<=n
 ·have hy3:=HLS.E fO;have uL:=G fO;clear fO;have k2:decide (lq (y+1)<=n)=Z:=by rw[decide_eq_true_eq];exact uL.E
  generalize hBB:lq (y+1)=BB at*;have J2:=G hBB;clear hBB;go_wp2_with fail;refine xH.E.mono ?_;rintro e wx ⟨rfl,rfl⟩;go_wp2_with fail;go_round;case rel=>exact⟨y+1,rfl,I,I,λ_=>by rw[J2.E];exact uL.E⟩
  simp[intOf];omega
 have Dj:af (n<lq (y+1)):=by show _<_;omega
 have k2:decide (lq (y+1)<=n)=X:=by rw[decide_eq_false_iff_not];exact fO
 have aP:=G (acZ y w I I);have FP:=aiU (y:=y) I I;have aDC:=FP.1;have JY:=FP.2;have hyn:=HYN.E;have HMO:af (∀q:Nat,q<=11->mF y ((q:Int)+1)<=n-lq y-lT y q->q+1<=11):=λq hq h=>atW ⟨I,Eo⟩ Dj.E hq h;have XL:af (∀q:Nat,0<=n-lq y-lT y q->¬mF y ((q:Int)+1)<=n-lq y-lT y q->NZ y ((q:Int)+1) (n-lq y-lT y q+1)=Z/\N7 y ((q:Int)+1) (n-lq y-lT y q+1)=n):=λq h0 h=>atX h0 h;clear FP fO HLS Kr;generalize lq (y+1)=BB at*;generalize lq y=B at*;go_wp2_with fail;refine xH.E.mono ?_;rintro e wx ⟨rfl,rfl⟩;go_wp2_with fail;refine aP.E.mono ?_;rintro e wx ⟨rfl,rfl⟩;go_wp2_with fail;go_loopw [3,4] (λmv dv wr=>∃q:Nat,q<=11/\mv=C D ((q:Int)+1)/\dv=C D (n-B-lT y q)/\0<=n-B-lT y q/\aj w.heap.size w wr) (λmv _ _=>(13-intOf mv).toNat);case atStart=>exact⟨0,I,rfl,by rw[show lT y 0=0 from rfl,Int.sub_zero],by rw[show lT y 0=0 from rfl];omega,aN _ _⟩
 obtain⟨q,hq,rfl,rfl,h0,aH⟩:=hrel;have bA:=G aH;clear aH;have qZ:=aiT y q;have hc1:=qZ.1;have wQ:lT y q<=400:=I;have gN:=G (aiW y q);have CV:=aaf y ((q:Int)+1);have pG:=CV.1;have hd2:=CV.2;have Gi:af (∀w,aF aa 114 #[C D y,C D ((q:Int)+1)] w λe w'=>e=aI (C D (mF y ((q:Int)+1)))/\aj w.heap.size w w'):=aah y ((q:Int)+1);have HM:=G (HMO.E q hq);have HD:=G (XL.E q h0);clear qZ CV;generalize lT y q=jN at*;generalize mF y ((q:Int)+1)=bf at*;by_cases lu:bf<=n-B-jN
 ·have iL:=HM.E lu;go_wp2_with fail;refine(Gi.E _).mono ?_;rintro e w2 ⟨rfl,aJ⟩;have aS:=G (aU bA.E aJ);clear aJ;go_wp2_with fail;refine(Gi.E _).mono ?_;rintro e w3 ⟨rfl,aR⟩;have bC:=G (aU aS.E aR);clear aR;go_wp2_with fail;go_roundw;case rel=>exact⟨q+1,I,bR,by rw[gN.E];exact congrArg (C D) I,by rw[gN.E];omega,bC.E⟩
  simp[intOf];omega
 have k3:decide (bf<=n-B-jN)=X:=by rw[decide_eq_false_iff_not];exact lu
 have hd:=HD.E I;have HDD:=G hd;clear hd;go_wp2_with fail;refine(Gi.E _).mono ?_;rintro e w2 ⟨rfl,aJ⟩;have aS:=G (aU bA.E aJ);clear aJ;go_wp2_with fail;refine eX (v:=bz #[C D y,C D ((q:Int)+1),C D (n-B-jN+1),C D 0]) ?_ rfl ⟨y,(q:Int)+1,n-B-jN+1,rfl,HDD.E.1,HDD.E.2,aS.E⟩;simp[results,results113,go_sem]
theorem azb(n:Int)(w:Y)(h:BU n=X):aF aa 113 #[n] w λe w'=>e=aI (bz #[C D 0,C D 0,C D 0,C D 2])/\w=w':=by have HV:=G (SS n w);rw[h] at HV;clear h;go_enter func113,ntmps113;go_wp2_with fail;refine HV.mono ?_;rintro e wx ⟨rfl,rfl⟩;go_wp2_with fail;refine eX (v:=bz #[C D 0,C D 0,C D 0,C D 2]) ?_ rfl ⟨rfl,rfl⟩;simp[results,results113,go_sem]
theorem amh(y m p q:Int)(w:Y):aF aa 179 #[aD #[y,m,p],q] w λe w'=>(∃n:Int,e=aI n/\(n=0->AU y m p=Z/\0<=q/\q<p))/\aj w w w':=by
 have aP:=G ((aN w w).alloc (aC _) (ag (#[y,m,p]:Array ak) 23));have HC:=G (λW=>aaq y m p W);have dC:=G (ai.new w 23 #[y,m,p]);obtain⟨ok,aX⟩:∃b,b=AU y m p:=⟨_,rfl⟩;rw[<-aX] at HC |-;clear aX;go_enter func179,ntmps179;go_wp2_with fail;refine(HC _).mono ?_;rintro e w1 ⟨rfl,aB⟩;have aM:=G (aU aP aB);have bO:=G (dC.below aB aG);have x2:w1.cell? ⟨w,2,J⟩=N (C D p):=bO.cell 2;clear aB HC aP dC;cases ok;·go_wp2_with fail;go_ret;exact⟨⟨_,rfl,λh=>by cases h⟩,aM⟩
 by_cases h1:q<0;·go_wp2_with fail;go_ret;exact⟨⟨_,rfl,λh=>by cases h⟩,aM⟩
 have k1:decide (q<0)=X:=by simpa using h1
 by_cases h2:q>=p;·go_wp2_with fail;go_ret;exact⟨⟨_,rfl,λh=>by cases h⟩,aM⟩
 have k2:decide (q>=p)=X:=by simpa using h2
 go_wp2_with fail;go_ret;first|exact⟨⟨_,rfl,λ_=>by first|exact⟨rfl,I,I⟩|omega⟩,aM⟩|exact⟨⟨_,rfl⟩,aM⟩
theorem ami(n:Int)(w:Y):aF aa 113 #[n] w (R4 w):=by
 cases h:BU n;·refine(azb n w h).mono ?_;rintro e w' ⟨rfl,hb⟩;subst hb;exact R4.mk _ _ _ _
 unfold BU at h;rw[bq,decide_eq_true_eq,decide_eq_true_eq] at h;refine(aza n w h.1 h.2).mono ?_;rintro e w' ⟨y,m,d,rfl,_,_,hb⟩;exact R4.mk _ _ _ _
def aDD(y m p:Int):Array ak:=#[y,m,p]
theorem aet{y m p:Int}(h:ai w g 23 #[y,m,p]):w.cell? ⟨g,0,J⟩=N (C D y)/\w.cell? ⟨g,1,J⟩=N (C D m)/\w.cell? ⟨g,2,J⟩=N (C D p):=⟨h.cell 0,h.cell 1,h.cell 2⟩
theorem amj(y m p q:Int)(w:Y)(h:AU y m p=Z)(h0:0<=q)(h1:q<=119):aF aa 180 #[aD #[y,m,p],q] w (RI w):=by have hc:=WK.1 h;refine(ajC y m p q w I I I I h0 h1).mono ?_;rintro e w' ⟨rfl,hb⟩;unfold LQ;obtain⟨sH,Fh,hNE⟩:=ajB ((12*y+m-1+q)/12) ((12*y+m-1+q)%12+1) 1;rw[hNE];exact RI.mk _ _
theorem amk(h:R:=by
  have k0:(n !=0)=Z:=by simpa using h0
  clear hn h0 dC;go_wp2_with fail;go_ret2;exact RI.mk _ _):R:=h
theorem aml(y m p q:Int)(w:Y):aF aa 112 #[aD #[y,m,p],q] w (RI w):=by
 have dC:=G (ai.new w 23 #[y,m,p]);go_enter func112,ntmps112;go_wp2_with fail;refine(amh y m p q _).mono ?_;rintro e w1 ⟨⟨n,rfl,hn⟩,aB⟩;obtain⟨x0,x1,x2⟩:=aet (dC.below aB aG);by_cases h0:n=0;·subst h0;obtain⟨hc,hq,hp⟩:=hn rfl;have HF:=G (amj y m p q w1 hc hq (by have:=WK.1 hc;omega));clear hn hc dC;go_wp2_with(refine HF.mono ?_;rintro e w2 ⟨⟨a,b,rfl⟩,aJ⟩;dsimp only);go_ret2;exact RI.mk _ _
 exact amk
theorem azc(y m p q:Int)(w:Y):aF aa 194 #[aD #[y,m,p],q] w (RI w):=by
 have dC:=G (ai.new w 23 #[y,m,p]);go_enter func194,ntmps194;go_wp2_with fail;refine(amh y m p q _).mono ?_;rintro e w1 ⟨⟨n,rfl,hn⟩,aB⟩;obtain⟨x0,x1,x2⟩:=aet (dC.below aB aG);by_cases h0:n=0
 ·subst h0;obtain⟨hc,hq,hp⟩:=hn rfl;have HC:=G hc;have iL:q<=119:=by have:=WK.1 hc;omega
  clear hn hc dC hp;go_wp2_with fail;refine(amj y m p _ w1 HC I I).mono ?_;rintro e w2 ⟨⟨a,b,rfl⟩,aJ⟩;go_wp2_with fail;go_ret2;exact RI.mk _ _
 exact amk
theorem azd(y:Int):fU (IntKind.i64.wrap y):=by unfold fU;simp[Lit.wf,IntKind.wrap,IntKind.min,IntKind.max,IntKind.signed,IntKind.bits]<;>(try split)<;>omega
theorem aze(y:Int):fU (wrap64 y):=by unfold fU wrap64;simp[Lit.wf,IntKind.min,IntKind.max,IntKind.signed,IntKind.bits]<;>(try split)<;>omega
theorem amm:fU 0:=rfl
def RK(w:Y)(e:Ending)(w':Y):Prop:=(∃a b:Int,fU a/\e=aI (bz #[a,b]))/\aj w w w'
theorem RK.mk(a b:Int)(ha:fU a:=by first|exact amm|exact aze _|exact azd _)(h:aj w w w':=by(repeat first|exact bQ _|assumption|refine bS Jz ?_|refine bJ ?_ _|refine kD ?_|refine EN ?_ _)):RK w (aI (bz #[a,b])) w':=⟨⟨a,b,ha,rfl⟩,h⟩
theorem RK.RI{e:Ending}(h:RK w e w'):RI w e w':=⟨by obtain⟨a,b,_,h⟩:=h.1;exact⟨a,b,h⟩,h.2⟩
theorem amn(y m p q:Int)(w:Y):aF aa 61 #[aD #[y,m,p],q] w (RK w):=by go_enter func61,ntmps61;go_wp2_with fail;refine(aml y m p q _).mono ?_;rintro e w1 ⟨⟨a,b,rfl⟩,aB⟩;go_wp2_with(first|(refine(ami _ _).mono ?_;rintro e w2 ⟨⟨y2,m2,d2,e2,rfl⟩,aJ⟩;dsimp only)|(refine(aah _ _ _).mono ?_;rintro e w3 ⟨rfl,aR⟩;dsimp only));all_goals(go_ret2;exact RK.mk _ _)
theorem amo(y m p d:Int)(w:Y):aF aa 190 #[aD #[y,m,p],d] w (RK w):=by
 have dC:=G (ai.new w 23 #[y,m,p]);go_enter func190,ntmps190;go_wp2_with fail;refine(aaq y m p _).mono ?_;rintro e w1 ⟨rfl,aB⟩;cases AU y m p;·go_wp2_with fail;go_ret2;exact RK.mk _ _
 go_wp2_with fail;refine(ami _ _).mono ?_;rintro e w2 ⟨⟨y2,m2,d2,e2,rfl⟩,aJ⟩;obtain⟨x0,x1,x2⟩:=aet ((dC.below aB aG).below aJ zT);go_wp2_with fail;all_goals(go_ret2;exact RK.mk _ _)
theorem azf(y m p q:Int)(w:Y):aF aa 61 #[aD #[y,m,p],q] w (RI w):=(amn y m p q w).mono λ_ _ h=>h.RI
theorem azg(y m p d:Int)(w:Y):aF aa 190 #[aD #[y,m,p],d] w (RI w):=(amo y m p d w).mono λ_ _ h=>h.RI
section
open Go.ChangeMaps
open Go.Maps (Keyed)
structure iM where
 cur:List UInt8
 kind:Int
 date:Int
 num:Int
instance:Inhabited iM:=⟨⟨[],0,0,0⟩⟩
def pR(x:iM):List ak:= [au ⟨x.cur.toArray⟩,C D x.kind,C D x.date,C D x.num]
theorem XM(x:iM):(pR x).length=4:=rfl
theorem amq{l:List iM}(h:Reads w B 4 A n (l.flatMap pR)):l.length=n:=by have:=h.1;rw[LH pR XM] at this;omega
theorem Reads.aaV{l:List iM}(h:Reads w B 4 A n (l.flatMap pR))(hk:k<n):
  ∃ad,A=N ad/\ad.block<B/\w.cell? (ad.add (k*4))=N (au ⟨(l.getD k ay).cur.toArray⟩)/\w.cell? ⟨(ad.add (k*4)).block,(ad.add (k*4)).off+1,J⟩=N (C D (l.getD k ay).kind)/\w.cell? ⟨(ad.add (k*4)).block,(ad.add (k*4)).off+2,J⟩=N (C D (l.getD k ay).date)/\w.cell? ⟨(ad.add (k*4)).block,(ad.add (k*4)).off+3,J⟩=N (C D (l.getD k ay).num):=by
 have hl:=amq h;obtain⟨ad,rfl,hb,hc⟩:=h.2 I;have hx:∀j,j<4->∀u,(pR (l.getD k ay))[j]?=N u->w.cell? (ad.add (k*4+j))=N u:=by intro j hj u hu;refine hc _ _ ?_;rw[Gl pR XM I hj,hu]
 exact aiY
structure GV where
 code:Int
 bX:Int
 wth:Int
instance:Inhabited GV:=⟨⟨0,0,0⟩⟩
def xY(x:GV):List ak:= [C D x.code,C D x.bX,C D x.wth]
theorem amr(x:GV):(xY x).length=3:=rfl
theorem azh{l:List GV}(h:Reads w B 3 A n (l.flatMap xY)):l.length=n:=by have:=h.1;rw[LH xY amr] at this;omega
theorem Reads.QZ{l:List GV}(h:Reads w B 3 A n (l.flatMap xY))(hk:k<n):
  ∃ad,A=N ad/\ad.block<B/\w.cell? (ad.add (k*3))=N (C D (l.getD k ay).code)/\w.cell? ⟨(ad.add (k*3)).block,(ad.add (k*3)).off+1,J⟩=N (C D (l.getD k ay).bX)/\w.cell? ⟨(ad.add (k*3)).block,(ad.add (k*3)).off+2,J⟩=N (C D (l.getD k ay).wth):=by
 have hl:=azh h;obtain⟨ad,rfl,hb,hc⟩:=h.2 I;have hx:∀j,j<3->∀u,(xY (l.getD k ay))[j]?=N u->w.cell? (ad.add (k*3+j))=N u:=by intro j hj u hu;refine hc _ _ ?_;rw[Gl xY amr I hj,hu]
 exact ai0
structure gV where
 id:Int
 bD:Int
 date:Int
 kind:Int
 of:Int
 text:List UInt8
 A:Option aK
 n:Nat
 c:Nat
 ls:List GV
instance:Inhabited gV:=⟨⟨0,0,0,0,0,[],J,0,0,[]⟩⟩
def qp(x:gV):List ak:= [C D x.id,C D x.bD,C D x.date,C D x.kind,C D x.of,au ⟨x.text.toArray⟩,O x.A x.n x.c]
theorem XN(x:gV):(qp x).length=7:=rfl
theorem XO{l:List gV}(h:Reads w B 7 A n (l.flatMap qp)):l.length=n:=by have:=h.1;rw[LH qp XN] at this;omega
theorem Reads.XP{l:List gV}(h:Reads w B 7 A n (l.flatMap qp))(hk:k<n):
  ∃ad,A=N ad/\ad.block<B/\w.cell? (ad.add (k*7))=N (C D (l.getD k ay).id)/\w.cell? ⟨(ad.add (k*7)).block,(ad.add (k*7)).off+1,J⟩=N (C D (l.getD k ay).bD)/\w.cell? ⟨(ad.add (k*7)).block,(ad.add (k*7)).off+2,J⟩=N (C D (l.getD k ay).date)/\w.cell? ⟨(ad.add (k*7)).block,(ad.add (k*7)).off+3,J⟩=N (C D (l.getD k ay).kind)/\w.cell? ⟨(ad.add (k*7)).block,(ad.add (k*7)).off+4,J⟩=N (C D (l.getD k ay).of)/\w.cell? ⟨(ad.add (k*7)).block,(ad.add (k*7)).off+5,J⟩=N (au ⟨(l.getD k ay).text.toArray⟩)/\w.cell? ⟨(ad.add (k*7)).block,(ad.add (k*7)).off+6,J⟩=N (O (l.getD k ay).A (l.getD k ay).n (l.getD k ay).c):=by
 have hl:=XO h;obtain⟨ad,rfl,hb,hc⟩:=h.2 I;have hx:∀j,j<7->∀u,(qp (l.getD k ay))[j]?=N u->w.cell? (ad.add (k*7+j))=N u:=by intro j hj u hu;refine hc _ _ ?_;rw[Gl qp XN I hj,hu]
 have g0:=hx 0 I _ rfl;have g1:=hx 1 I _ rfl;have g2:=hx 2 I _ rfl;have g3:=hx 3 I _ rfl;have g4:=hx 4 I _ rfl;have g5:=hx 5 I _ rfl;have g6:=hx 6 I _ rfl;rw[<-mW,nS _ 1 I] at g1;rw[<-mW,nS _ 2 I] at g2;rw[<-mW,nS _ 3 I] at g3;rw[<-mW,nS _ 4 I] at g4;rw[<-mW,nS _ 5 I] at g5;rw[<-mW,nS _ 6 I] at g6;exact⟨ad,rfl,hb,g0,g1,g2,g3,g4,g5,g6⟩
def XQ(x:iM):Prop:=x.cur.length<=9223372036854775807/\fU x.kind/\fU x.date
structure Cv(W:Y)(B:Nat)(A:Option aK)(n c:Nat)(l:List iM):Prop where
 rd:Reads W B 4 A n (l.flatMap pR)
 le:n<=1000
 cap:n<=c
 ok:∀x∈l,XQ x
structure xm(W:Y)(B:Nat)(x:gV):Prop where
 rd:Reads W B 3 x.A x.n (x.ls.flatMap xY)
 le:x.n<=1000
 cap:x.n<=x.c
 tx:x.text.length<=9223372036854775807
 id:fU x.id
 of:fU x.of
structure XR(W:Y)(B:Nat)(A:Option aK)(n c:Nat)(l:List gV):Prop where
 rd:Reads W B 7 A n (l.flatMap qp)
 le:n<=1000
 cap:n<=c
 ok:∀x∈l,xm W B x
section
variable{w w':Y}{B:Nat}
theorem Cv.low{l:List iM}(h:Cv w B A n c l)(hB:B<=w.heap.size)(hC:w.heap.size<=jN)(hb:aj jN w w'):Cv w' B A n c l:=⟨h.rd.fV hB hC hb,h.le,h.cap,h.ok⟩
theorem xm.low{x:gV}(h:xm w B x)(hB:B<=w.heap.size)(hC:w.heap.size<=jN)(hb:aj jN w w'):xm w' B x:=⟨h.rd.fV hB hC hb,h.le,h.cap,h.tx,h.id,h.of⟩
theorem XR.low{l:List gV}(h:XR w B A n c l)(hB:B<=w.heap.size)(hC:w.heap.size<=jN)(hb:aj jN w w'):XR w' B A n c l:=⟨h.rd.fV hB hC hb,h.le,h.cap,λx hx=>(h.ok x hx).low hB hC hb⟩
end
structure Mw where
 T:bM
 KT:bM
 ET:bM
 K:ak->Prop
 z:ak
 ht:aa.underlying T=N (.map KT ET)
 law:Keyed aa KT
 key:∀v,K v->∃lt,keyOf aa KT v=N lt
 hz:∀w:Y,(zeroValue ET).run aa w= .ok z w
def gG(M:Mw)(P:ak->Prop)(w:Y)(b:Nat):Prop:=∃es dN,w.heap[b]?=N (.map es dN)/\∀e,e∈es.toList->M.K e.key/\P e.val
section
variable{M:Mw}{P:ak->Prop}{w w':Y}{b:Nat}
theorem gG.made(w:Y):gG M P (w.alloc (.map #[] 0)) w.heap.size:=⟨#[],0,(MapKept.heap_alloc w _).1,aG⟩
theorem gG.lt(h:gG M P w b):b<w.heap.size:=by obtain⟨es,dN,hb,_⟩:=h;exact(JQ.1 hb).1
theorem gG.kept(h:gG M P w b)(hk:w'.heap[b]?=w.heap[b]?):gG M P w' b:=by obtain⟨es,dN,hb,r⟩:=h;exact⟨es,dN,hk.trans hb,r⟩
theorem gG.mono{P':ak->Prop}(h:gG M P w b)(hp:∀v,P v->P' v):gG M P' w b:=by obtain⟨es,dN,hb,r⟩:=h;exact⟨es,dN,hb,λe he=>⟨(r e he).1,hp _ (r e he).2⟩⟩
theorem gG.below(h:gG M P w b)(hb:aj B w w')(hB:b<B):gG M P w' b:=h.kept (hb.block b hB)
theorem gG.alloc(h:gG M P w b)(o:Obj):gG M P (w.alloc o) b:=h.kept (nK w o b h.lt)
theorem gG.grown{row:Option Nat}(h:gG M P w b)(hg:w.grownBy w' row)(hr:N b≠row):gG M P w' b:=h.kept (hg.block b h.lt hr)
theorem ams{k:ak}(h:gG M P w b)(hk:M.K k):∃(v:ak) (t:Bool),(Jq M.T (.map (N b)) k Z).run aa w= .ok (bz #[v,t]) w/\(t=Z->P v)/\(t=X->v=M.z):=by
 obtain⟨es,dN,hb,he⟩:=h;obtain⟨lt,aO⟩:=M.key k hk;have hc:=M.law.check w es.isEmpty aO;rcases M.law.find w aO es.toList (λe hm=>M.key _ (he e hm).1) with⟨h1,_⟩|⟨j,e,h1,h2,_⟩;·exact⟨M.z,X,Yt,aG,λ_=>rfl⟩
 exact⟨e.val,Z,Yt,λ_=>(he e (Jr h2)).2,aG⟩
theorem azi{k:ak}(h:gG M P w b)(hk:M.K k):∃v,(Jq M.T (.map (N b)) k X).run aa w= .ok v w/\(P v\/v=M.z):=by
 obtain⟨es,dN,hb,he⟩:=h;obtain⟨lt,aO⟩:=M.key k hk;have hc:=M.law.check w es.isEmpty aO;rcases M.law.find w aO es.toList (λe hm=>M.key _ (he e hm).1) with⟨h1,_⟩|⟨j,e,h1,h2,_⟩;·exact⟨M.z,Yt,.inr rfl⟩
 exact⟨e.val,Yt,.inl (he e (Jr h2)).2⟩
theorem aeu{k:ak}(h:gG M P w b)(hk:M.K k)(hv:P v):∃w1,(NC M.T (.map (N b)) k v).run aa w= .ok () w1/\w.grownBy w1 (N b)/\gG M P w1 b:=by
 obtain⟨es,dN,hb,he⟩:=h;obtain⟨lt,aO⟩:=M.key k hk;have hc:=M.law.check w X aO;rcases M.law.find w aO es.toList (λe hm=>M.key _ (he e hm).1) with⟨h1,_⟩|⟨j,e,h1,h2,h3⟩
 ·refine⟨setBlock w b (.map (es.push ⟨k,v,dN⟩) (dN+1)),?_,aak _,?_⟩;·exact ai8
  refine⟨_,_,aal hb _,λe hm=>?_⟩;rw[Sl,pW,lF] at hm;rcases hm with hm|rfl;·exact he e hm
  exact⟨hk,hv⟩
 have hj:es[j]?=N e:=by simpa using h2
 refine⟨setBlock w b (.map (es.modify j λe=> {e with key:=k,val:=v}) dN),?_,aak _,?_⟩;·exact ai7
 refine⟨_,_,aal hb _,λe' hm=>?_⟩;rw[Array.toList_modify,modify_eq_set _ _ _ _ h2] at hm;rcases Sm hm with hm|rfl;·exact he e' hm
 exact⟨hk,hv⟩
variable{ops:Array Oper}{rest:List Oper}{o:Oper}{a:Act}{K:Act->Y->Prop}{Q:Exit->Act->Y->Prop}
theorem azj(hg:sZ o (yielded ops a.tmps)=Z)(m x:Operand)(iY:o.op=Op.lookup M.T m x X)(b:Nat)(k:ak)(hm:a.eval m= .map (N b))(hx:a.eval x=k)(h:gG M P w b)(hk:M.K k)
  (hK:∀v,(P v\/v=M.z)->wpList aa ops Q rest (a.put o.dst v) w):wpList aa ops Q (o::rest) a w:=BigFrame.wpList_want hg λ_ yE=>by obtain⟨v,e,h1⟩:=azi h hk;unfold yt;simp[execOp,iY,hm,hx,e,yl];exact yE _ _ (hK v h1)
theorem azk(hg:o.guard=J)(m x y:Operand)(iY:o.op=Op.mapUpdate M.T m x y)(b:Nat)(k v:ak)(hm:a.eval m= .map (N b))(hx:a.eval x=k)(hy:a.eval y=v)(h:gG M P w b)(hk:M.K k)(hv:P v)
  (hK:∀w',gG M P w' b->w.grownBy w' (N b)->wpList aa ops Q rest (a.put o.dst undef) w'):wpList aa ops Q (o::rest) a w:=wpList_plain hg λ_ yE=>by obtain⟨w1,gu,hgr,H9⟩:=aeu h hk hv;unfold yt;simp[execOp,iY,hm,hx,hy,gu,yl];exact yE _ _ (hK w1 H9 hgr)
end
end
theorem azl(args:Array ak)(w:Y):(callFunc 178 args).run aa w= .ok (.enter 178 args) w:=by simp[go_sem]
theorem azm(c:Int)(w:Y):aF aa 178 #[C .u8 c] w (RB w):=by go_enter func178,ntmps178;go_wp2_with fail;all_goals(go_ret;exact RB.mk _)
theorem azn(ad:aK)(n c:Nat)(w:Y)(hn:n<=9223372036854775807)(mK:ad.block<w.heap.size)(hc:∀j,j<n->∃x:Int,w.cell? (ad.add j)=N (C .u8 x)):
  aF aa 236 #[O (N ad) n c,.func (.func 178) #[] #[]] w (R1 w):=by
 have HC:=G hc;have oo:=azl;clear hc;go_enter func236,ntmps236;go_wp2_with fail;go_loopw [8] (λi wr=>∃k:Nat,k<=n/\i=C D k/\aj w w wr) (λi _=>n-(intOf i).toNat);case atStart=>exact⟨0,I,rfl,aN _ _⟩
 obtain⟨k,hk,rfl,aH⟩:=hrel;obtain⟨wo,rfl⟩:=dz wr;by_cases aO:k<n
 ·obtain⟨x,hx⟩:=HC k aO;have c0:wo.cell? (ad.add k)=N (C .u8 x):=(aH.cell (by rw[zX];exact mK)).trans hx;clear hx;go_wp2_with fail;refine(azm x _).mono ?_;rintro e w1 ⟨⟨b,rfl⟩,hb⟩;have aB:=aU aH hb;clear c0 hb aH;cases b;·go_wp2_with fail;exact⟨⟨k+1,I,bR,aB⟩,bW⟩
  go_wp2_with fail;go_ret;exact⟨⟨_,rfl⟩,aB⟩
 go_wp2_with fail;go_ret;exact⟨⟨_,rfl⟩,aH⟩
theorem amu(h:R:=by go_wp2_with fail;refine HI.mono ?_;rintro e w1 ⟨⟨r,rfl⟩,hb⟩;go_wp2_with fail;all_goals(go_ret;exact RB.mk _)):R:=h
theorem azo(ad:aK)(n c:Nat)(w:Y)(hn:n<=9223372036854775807)(mK:ad.block<w.heap.size)(hc:∀j,j<n->∃x:Int,w.cell? (ad.add j)=N (C .u8 x)):
  aF aa 177 #[O (N ad) n c,.func (.func 178) #[] #[]] w (RB w):=by have HI:=G (azn ad n c w hn mK hc);clear hc;go_enter func177,ntmps177;exact amu
theorem azp(s:ByteArray)(w:Y):∃W c,(convert 9 116 (.string s)).run aa w= .ok (O w s.size c) W/\aj w w W/\w.heap.size<W.heap.size/\∀j,j<s.size->∃x:Int,W.cell? (Addr.add ⟨w,0,J⟩ j)=N (C .u8 x):=by
 refine⟨_,_,Go.Lib.run_convert_string_bytes w _ _ 5 s underlying9 underlying116 underlying5,?_,?_,?_⟩;·exact⟨rfl,by simp[bytesWorld,World.freeze],rfl,by rw[bytesWorld_size];omega,λj hj=>bytesWorld_at_old _ _ _ _ hj⟩
 ·rw[bytesWorld_size];omega
 intro j hj;have h:=bytesWorld_cell w 5 s j hj;cases j with
 |zero=>exact⟨_,h⟩
 |succ j=>exact⟨_,by rw[nS _ _ I];simpa using h⟩
theorem aaW(s:List UInt8)(w:Y)(hs:s.length<=9223372036854775807):aF aa 111 #[s] w (RB w):=by
 have hz:(⟨s.toArray⟩:ByteArray).size=s.length:=by show s.toArray.size=_;rw[AX]
 obtain⟨W,c,hcv,aT,aO,gT⟩:=azp ⟨s.toArray⟩ w;rw[hz] at hcv gT;have HF:=G (azo ⟨w,0,J⟩ s.length c W hs aO gT);clear gT;generalize(⟨s.toArray⟩:ByteArray)=t at*;go_enter func111,ntmps111;go_wp2_with(refine HF.mono ?_;rintro e w1 ⟨⟨b,rfl⟩,hb⟩;dsimp only);all_goals(go_ret;exact RB.mk _)
section
open Go.ChangeMaps
open Go.Maps (Keyed int_keyed string_keyed)
def KI(v:ak):Prop:=∃a:Int,v=C D a/\fU a
def KR(v:ak):Prop:=∃(s:List UInt8) (a b:Int),v=aD #[s,a,b]/\s.length<=9223372036854775807/\fU a/\fU b
def KM(v:ak):Prop:=∃a b:Int,v=aD #[a,b]/\fU a/\fU b
theorem azq(d:Nat){s:ByteArray}(h:s.size<=maxLen):aa.keyLits (d+1) 9 [.string s]=N [.string s.data.toList]:=by unfold Program.keyLits;rw[underlying9];simp[h]
theorem azr:aa.cellsOf 9=1:=by kernel_rfl
theorem amv(h2:aa.keyTypeAt 2 t=Z):aa.keyType t=Z:=by exact aje
theorem amw:aa.cellsOf 237=3:=by kernel_rfl
theorem amx:aa.cellsOf 314=2:=by kernel_rfl
theorem azs:aa.keyType 237=Z:=amv dh
theorem azt:aa.keyType 314=Z:=amv dh
theorem azu(d:Nat){s:ByteArray}{a b:Int}(hs:s.size<=maxLen)(ha:fU a)(hb:fU b):aa.keyLits (d+2) 237 [.string s,.int .i64 a,.int .i64 b]=N [.string s.data.toList,.int .i64 a,.int .i64 b]:=by have ks:=azq d hs;have ka:=Qd d ha;have kb:=Qd d hb;unfold Program.keyLits;rw[underlying237];simp[ks,ka,kb,amw,ac6,azr]
theorem azv(d:Nat){a b:Int}(ha:fU a)(hb:fU b):aa.keyLits (d+2) 314 [.int .i64 a,.int .i64 b]=N [.int .i64 a,.int .i64 b]:=by have ka:=Qd d ha;have kb:=Qd d hb;unfold Program.keyLits;rw[underlying314];simp[ka,kb,amx,ac6]
theorem azw(s:ByteArray)(b c:Int):WC aa 237 (aD #[.string s,b,c])=Z:=by unfold WC;simp[underlying237,amw]
theorem azx(b c:Int):WC aa 314 (aD #[b,c])=Z:=by unfold WC;simp[underlying314,amx]
theorem size_two:∃n,aa.types.size+1=n+2:=⟨aa.types.size-1,by have:0<aa.types.size:=of_decide_eq_true dh;omega⟩
theorem azy(v:ak)(h:KR v):∃lt,keyOf aa 237 v=N lt:=by obtain⟨s,a,b,rfl,hs,ha,hb⟩:=h;obtain⟨n,hn⟩:=size_two;refine⟨.string (keyBytes [.string (⟨s.toArray⟩:ByteArray).data.toList,.int .i64 a,.int .i64 b]),?_⟩;unfold keyOf;rw[underlying237];simp only[azs,azw,Bool.and_self,if_true];rw[hn];show((aa.keyLits (n+2) 237 [.string ⟨s.toArray⟩,.int .i64 a,.int .i64 b]).map _)=_;rw[azu n (ajb hs) ha hb];rfl
theorem azz(v:ak)(h:KM v):∃lt,keyOf aa 314 v=N lt:=by obtain⟨a,b,rfl,ha,hb⟩:=h;obtain⟨n,hn⟩:=size_two;refine⟨.string (keyBytes [.int .i64 a,.int .i64 b]),?_⟩;unfold keyOf;rw[underlying314];simp only[azt,azx,Bool.and_self,if_true];rw[hn];show((aa.keyLits (n+2) 314 [.int .i64 a,.int .i64 b]).map _)=_;rw[azv n ha hb];rfl
theorem azA(v:ak)(h:KI v):∃lt,keyOf aa 3 v=N lt:=by obtain⟨a,rfl,ha⟩:=h;exact aja ha
theorem azB:Keyed aa 237:=Keyed.of_law (deep_law_laid ac5 (m:=2) I (of_decide_eq_true dh) dh (by rw[underlying237]))
theorem azC:Keyed aa 314:=Keyed.of_law (deep_law_laid ac5 (m:=2) I (of_decide_eq_true dh) dh (by rw[underlying314]))
def Kt:Mw:=⟨213,3,3,KI,C D 0,underlying213,ajc,azA,λw=>by kernel_rfl⟩
def MRK:Mw:=⟨232,237,4,KR,ax X,underlying232,azB,azy,λw=>by kernel_rfl⟩
def Uj:Mw:=⟨91,314,316,KM,aD #[C D 0,C D 0],underlying91,azC,azz,λw=>by kernel_rfl⟩
end
theorem amy(c:List UInt8)(k d n:Int)(w:Y):aF aa 110 #[aD #[c,k,d,n]] w λe w'=>e=aI (aD #[c,k,d])/\aj w w w':=by go_enter func110,ntmps110;go_wp2_with fail;have eH:=bJ (bJ (bQ w) (ag #[c,k,d,n] 234)) (ag #[c,k,d] 237);have jM:=ai.new (w.alloc (ag #[c,k,d,n] 234)) 237 #[c,k,d];rw[aW] at jM;generalize pJ (pJ _ _) _=wz at*;have z0:=jM.cell 0;have z1:=jM.cell 1;have z2:=jM.cell 2;simp only[iH,iX,iI] at z0 z1 z2;refine eX (v:=aD #[c,k,d]) ?_ rfl ⟨rfl,eH⟩;simp[results,results110,go_sem,z0,z1,z2]
theorem azD(g:List UInt8)(c:List UInt8)(k d n:Int)(w:Y)(hc:c.length<=9223372036854775807):aF aa 109 #[g,aD #[c,k,d,n]] w (RB w):=by
 have aP:=G (bJ (bQ w) (ag #[c,k,d,n] 234));have dC:=G (ai.new w 234 #[c,k,d,n]);generalize hG:(⟨g.toArray⟩:ByteArray)=gN;have Ch:=G (λW=>aaW c W hc);clear hG hc;generalize(⟨c.toArray⟩:ByteArray)=jN at*;go_enter func109,ntmps109;go_wp2_with fail;refine(Ch _).mono ?_;rintro e w1 ⟨⟨b,rfl⟩,aB⟩;have aM:=G (bS aB aP);have bO:=G (dC.below aB aG);have x0:w1.cell? ⟨w,0,J⟩=N (.string jN):=bO.cell 0;have x1:w1.cell? ⟨w,1,J⟩=N (C D k):=bO.cell 1;have x2:w1.cell? ⟨w,2,J⟩=N (C D d):=bO.cell 2;have x3:w1.cell? ⟨w,3,J⟩=N (C D n):=bO.cell 3;have aT:=aM;clear aB aP dC Ch;cases b;all_goals go_wp2_with(refine(SS _ _).mono ?_;rintro e w3 ⟨rfl,rfl⟩;dsimp only)
 all_goals(go_ret;exact RB.mk _)
theorem aev(g:List UInt8)(l:List iM)(A:Option aK)(n c B:Nat)(w:Y)(hr:Cv w B A n c l)(hB:B<=w.heap.size)(hg:g.length<=9223372036854775807):
  aF aa 60 #[au ⟨g.toArray⟩,O A n c] w (RB w):=by
 have HL:=G (amq hr.rd);have HR:=G hr.rd;have HO:=G hr.ok;have hn:=hr.le;clear hr;have Ch:=G (λW=>aaW g W hg);have Ls:=G (λc k d n W hc=>azD g c k d n W hc);have aT:=bJ (bQ w) (.map #[] 0);have Gq:af (gG MRK (λv=>∃b:Bool,v=ax b) (w.alloc (.map #[] 0)) w.heap.size):=gG.made w;clear hg;generalize(⟨g.toArray⟩:ByteArray)=gN at*;have zx:= @run_makeMap aa;go_enter func60,ntmps60;go_wp2_with fail;have lY:(w.alloc (.map #[] 0)).heap.size=w.heap.size+1:=aG;generalize w.alloc (.map #[] 0)=w0 at*;go_loopw [11] (λi wr=>∃k:Nat,k<=n/\i=C D k/\aj w.heap.size w wr/\gG MRK (λv=>∃b:Bool,v=ax b) wr w.heap.size) (λi _=>n-(intOf i).toNat);case atStart=>exact⟨0,I,rfl,aT,Gq.E⟩
 obtain⟨k,hk,rfl,aH,hm⟩:=hrel;obtain⟨wo,rfl⟩:=dz wr;have HM:=G hm;have II:=hm.lt;clear hm Gq aT;by_cases aO:k<n
 ·obtain⟨ad,rfl,_,c0,c1,c2,c3⟩:=(HR.E.fV hB (aC _) aH).aaV aO;have dI:af (XQ (l.getD k ay)):=HO.E _ (by have:k<l.length:=zW;simp[dO,this]);generalize l.getD k ay=x at*;obtain⟨xc,xk,xd,xn⟩:=x;obtain⟨o1,o2,o3⟩:=dI.E;simp only[] at c0 c1 c2 c3 o1 o2 o3;have WS:af (KR (aD #[au ⟨xc.toArray⟩,C D xk,C D xd])):=⟨xc,xk,xd,rfl,o1,o2,o3⟩;have HP:=G (λW=>Ls.E xc xk xd xn W o1);have HF:=G (λW=>amy xc xk xd xn W);clear Ls dI o1 o2 o3;generalize(⟨xc.toArray⟩:ByteArray)=jN at*;have HX:=G (ai.new wo 234 #[.string jN,C D xk,C D xd,C D xn]);have wU:=G (HM.E.alloc (ag #[.string jN,C D xk,C D xd,C D xn] 234));have eY:=G (bJ aH (ag #[.string jN,C D xk,C D xd,C D xn] 234));clear aH HM;go_wp2_with fail;refine(HP.E _).mono ?_;rintro e w1 ⟨⟨b,rfl⟩,aB⟩;have aM:=G (bS aB eY.E);have zD:=G (wU.E.below aB bB);have bO:=G (HX.E.below aB aG);have x0:w1.cell? ⟨wo.heap.size,0,J⟩=N (.string jN):=bO.E.cell 0;have x1:w1.cell? ⟨wo.heap.size,1,J⟩=N (C D xk):=bO.E.cell 1;have x2:w1.cell? ⟨wo.heap.size,2,J⟩=N (C D xd):=bO.E.cell 2;have x3:w1.cell? ⟨wo.heap.size,3,J⟩=N (C D xn):=bO.E.cell 3;have ed:wo.heap.size<w1.heap.size:=zT;clear aB eY wU HX c0 c1 c2 c3;cases b;·have hb:=aM.E;go_wp2_with fail;go_ret;exact RB.mk _
  go_wp2_with fail;refine(HF.E _).mono ?_;rintro e w2 ⟨rfl,aJ⟩;have aS:=G (bS aJ aM.E);have wR:=G (zD.E.below aJ I);have eu:=G (bO.E.below aJ I);have x0:w2.cell? ⟨wo.heap.size,0,J⟩=N (.string jN):=eu.E.cell 0;have x1:w2.cell? ⟨wo.heap.size,1,J⟩=N (C D xk):=eu.E.cell 1;have x2:w2.cell? ⟨wo.heap.size,2,J⟩=N (C D xd):=eu.E.cell 2;have x3:w2.cell? ⟨wo.heap.size,3,J⟩=N (C D xn):=eu.E.cell 3;have fw:w1.heap.size<=w2.heap.size:=aJ.size;clear aJ aM zD bO;go_wp2_with(at_lookup;refine azj (M:=MRK) iN _ _ rfl w.heap.size _ rfl rfl wR.E WS.E ?_;intro v hv;obtain⟨b,rfl⟩:∃b:Bool,v=ax b:=hv.elim (λh=>h) (λh=>⟨X,h⟩);clear hv;cases b);·refine(HF.E _).mono ?_;rintro e w3 ⟨rfl,aR⟩;have bC:=G (bS aR aS.E);have I9:=G (wR.E.below aR I);have fM:w2.heap.size<=w3.heap.size:=aR.size;clear aR aS wR eu x0 x1 x2 x3;go_wp2_with(at_mapUpdate;refine azk (M:=MRK) (P:=λv=>∃b:Bool,v=ax b) rfl _ _ _ rfl w.heap.size _ _ rfl rfl rfl I9.E WS.E ⟨Z,rfl⟩ ?_;intro w4 hm4 yz);exact⟨⟨k+1,I,bR,bC.E.grown yz I (λj hj=>by cases hj;omega),hm4⟩,bW⟩
  have hb:=aS.E;go_ret;exact RB.mk _
 clear HM;go_wp2_with fail;refine(Ch.E _).mono ?_;rintro e w1 ⟨⟨b,rfl⟩,aB⟩;have hb:=bS aB aH;cases b;all_goals go_wp2_with fail
 all_goals(go_ret;exact RB.mk _)
theorem azE(q:List UInt8)(k0 d0:Int)(l:List iM)(A:Option aK)(n c B:Nat)(w:Y)(hr:Cv w B A n c l)(hB:B<=w.heap.size):
  aF aa 240 #[O A n c,q,k0,d0] w λe w'=>(∃(a:Int) (b:Bool),e=aI (bz #[a,b]))/\aj w w w':=by
 have HR:=G hr.rd;have hn:=hr.le;clear hr;have HF:=G (λc k d n W=>amy c k d n W);generalize(⟨q.toArray⟩:ByteArray)=gN at*;go_enter func240,ntmps240;go_wp2_with fail;go_loopw [14] (λi wr=>∃k:Nat,k<=n/\i=C D k/\aj w w wr) (λi _=>n-(intOf i).toNat);case atStart=>exact⟨0,I,rfl,bQ w⟩
 obtain⟨k,hk,rfl,aH⟩:=hrel;obtain⟨wo,rfl⟩:=dz wr;by_cases aO:k<n;·obtain⟨ad,rfl,_,c0,c1,c2,c3⟩:=(HR.fV hB (aC _) aH).aaV aO;generalize l.getD k ay=x at*;obtain⟨xc,xk,xd,xn⟩:=x;simp only[] at c0 c1 c2 c3;have wS:=G (HF xc xk xd xn);clear HF;generalize(⟨xc.toArray⟩:ByteArray)=jN at*;have HX:=G (ai.new wo 234 #[.string jN,xk,xd,xn]);have eY:=G (bJ aH (ag #[.string jN,xk,xd,xn] 234));clear aH;go_wp2_with fail;refine(wS _).mono ?_;rintro e w1 ⟨rfl,aB⟩;have hb:=bS aB eY;have bO:=G (HX.below aB aG);have x3:w1.cell? ⟨wo,3,J⟩=N (C D xn):=bO.cell 3;clear aB eY HX c0 c1 c2 c3;go_wp2_with fail;all_goals first|exact⟨⟨k+1,I,bR,hb⟩,bW⟩|(go_ret2;exact⟨⟨_,_,rfl⟩,hb⟩)
 go_wp2_with fail;go_ret2;exact⟨⟨_,_,rfl⟩,aH⟩
theorem azF(args:Array ak)(w:Y):(callFunc 54 args).run aa w= .ok (.enter 54 args) w:=by simp[go_sem]
theorem azG(x0 x1 x2 x3 c:Int)(g:Nat)(w:Y)(hg:g<w.heap.size)(hc:w.cell? ⟨g,0,J⟩=N (C D c)):aF aa 54 #[aD #[x0,x1,x2,x3],aQ g] w λe w'=>e=aI (decide (x0=c))/\aj w w w':=by
 go_enter func54,ntmps54;go_wp2_with fail;all_goals go_ret
 all_goals first|exact⟨rfl,bJ (bQ w) _⟩|exact⟨by simp_all,bJ (bQ w) _⟩
theorem azH(xs:List bE)(g:Nat)(code:Int)(A:Option aK)(n c B:Nat)(w:Y)(hr:Reads w B 4 A n (jS xs))(hB:B<=w.heap.size)(hn:n<=1000)(hg:g<w.heap.size)(hc:w.cell? ⟨g,0,J⟩=N (C D code)):
  aF aa 53 #[O A n c,.func (.func 54) #[] #[aQ g]] w λe w'=>(∃r:Int,e=aI r/\r<n/\decide (0<=r)=xs.any λa=>decide (a.code=code))/\aj w w w':=by
 have HL:=G (Qc hr);have HR:=G hr;have HC:=G hc;have oo:=azF;clear hr hc;go_enter func53,ntmps53;go_wp2_with fail;go_loopw [8] (λi wr=>∃k:Nat,k<=n/\i=C D k/\(xs.take k).any (λa=>decide (a.code=code))=X/\aj w w wr) (λi _=>n-(intOf i).toNat);case atStart=>exact⟨0,I,rfl,rfl,bQ w⟩
 obtain⟨k,hk,rfl,hd,aH⟩:=hrel;obtain⟨wo,rfl⟩:=dz wr;have HD:=G hd;clear hd;by_cases aO:k<n
 ·have dA:k<xs.length:=by rw[HL.E];exact aO
  obtain⟨ad,rfl,_,c0,c1,c2,c3⟩:=(HR.fV hB (aC _) aH).SY aO;have HY:af (decide ((xs.getD k ay).code=code)=Z->xs.any (λa=>decide (a.code=code))=Z):=λh=>adm (p:=λa=>decide (a.code=code)) dA h;have HN:af (decide ((xs.getD k ay).code=code)=X->(xs.take (k+1)).any (λa=>decide (a.code=code))=X):=λh=>adn dA HD h;clear dA;generalize xs.getD k ay=x at*;obtain⟨x0,x1,x2,x3⟩:=x;simp only[] at c0 c1 c2 c3 HY HN;have gT:wo.cell? ⟨g,0,J⟩=N (C D code):=(aH.cell hg).trans HC;have HX:=G (azG x0 x1 x2 x3 code g wo (yA hg aH.size) gT);clear gT;cases hp:decide (x0=code);all_goals
   have HP:=G hp;go_wp2_with fail;refine HX.mono ?_;rintro e w1 ⟨rfl,hb⟩;have aB:=bS hb aH;rw[HP.E];clear c0 c1 c2 c3 hb aH
  ·exact ado
  have F:=G (HY hp);clear hp HN HY;go_wp2_with fail;go_ret;exact⟨⟨k,rfl,I,Rq⟩,aB⟩
 have hd:=HD;rw[o7 U5] at hd;have F:=G hd;clear hd HD;go_wp2_with fail;go_ret;exact⟨⟨-1,rfl,I,ic⟩,aH⟩
theorem amz(g:gm)(code:Int)(B:Nat)(w:Y)(hg:zC w B g)(hB:B<=w.heap.size)(hn:g.nc<=1000):
  aF aa 15 #[J7 g,code] w λe w'=>(∃(a b c d:Int),e=aI (bz #[aD #[a,b,c,d],ax (g.jI.any λx=>decide (x.code=code))]))/\aj w w w':=by
 have HI:af (∀(gN:Nat) (W:Y),aj w w W->gN<W.heap.size->W.cell? ⟨gN,0,J⟩=N (C D code)->aF aa 53 #[O g.Ac g.nc g.cc,.func (.func 54) #[] #[aQ gN]] W λe w'=>(∃r:Int,e=aI r/\r<g.nc/\decide (0<=r)=g.jI.any λa=>decide (a.code=code))/\aj W W w'):=λgN W hW h1 h2=>azH g.jI gN code g.Ac g.nc g.cc B W (hg.ch.rd.fV hB (aC _) hW) lI hn h1 h2;have HR:=G hg.ch.rd;clear hg;obtain⟨cu,yr,mo,pe,Ac,nc,cc,ch,ro,Ae,ne,ce,es⟩:=g;unfold J7;simp only[] at HI HR hn |-;generalize ha:(ch.any λx=>decide (x.code=code))=an at*;clear ha;generalize(⟨cu.toArray⟩:ByteArray)=CU at*;have HG:=G (ai.new w 29 #[.string CU,yr,mo,pe,O Ac nc cc,ro.c0,ro.c1,ro.c2,ro.c3,ro.c4,ro.c5,ro.c6,ro.c7,ro.c8,ro.c9,ro.c10,ro.c11,ro.c12,ro.c13,ro.c14,O Ae ne ce]);obtain⟨o1,GM⟩:∃o:Obj,o=(ag #[.string CU,yr,mo,pe,O Ac nc cc,ro.c0,ro.c1,ro.c2,ro.c3,ro.c4,ro.c5,ro.c6,ro.c7,ro.c8,ro.c9,ro.c10,ro.c11,ro.c12,ro.c13,ro.c14,O Ae ne ce] 29):=⟨_,rfl⟩;have HW:=G (ai.new (w.alloc o1) 3 #[code]);have HV:=G (ai.new ((w.alloc o1).alloc (ag #[code] 3)) 78 #[C D 0,C D 0,C D 0,C D 0]);have aT:=bJ (bJ (bJ (bQ w) o1) (ag #[code] 3)) (ag #[C D 0,C D 0,C D 0,C D 0] 78);have uz:=G ((HG.alloc (ag #[code] 3)).alloc (ag #[C D 0,C D 0,C D 0,C D 0] 78));have HW2:=G (HW.alloc (ag #[C D 0,C D 0,C D 0,C D 0] 78));rw[GM] at HW HV aT HW2;clear GM;go_enter func15,ntmps15;go_wp2_with fail;have bV:((w.alloc (ag #[.string CU,yr,mo,pe,O Ac nc cc,ro.c0,ro.c1,ro.c2,ro.c3,ro.c4,ro.c5,ro.c6,ro.c7,ro.c8,ro.c9,ro.c10,ro.c11,ro.c12,ro.c13,ro.c14,O Ae ne ce] 29)).alloc (ag #[code] 3)).heap.size=w.heap.size+1+1:=aG;have hsz1:(w.alloc (ag #[.string CU,yr,mo,pe,O Ac nc cc,ro.c0,ro.c1,ro.c2,ro.c3,ro.c4,ro.c5,ro.c6,ro.c7,ro.c8,ro.c9,ro.c10,ro.c11,ro.c12,ro.c13,ro.c14,O Ae ne ce] 29)).heap.size=w.heap.size+1:=aG;have amA:(((w.alloc (ag #[.string CU,yr,mo,pe,O Ac nc cc,ro.c0,ro.c1,ro.c2,ro.c3,ro.c4,ro.c5,ro.c6,ro.c7,ro.c8,ro.c9,ro.c10,ro.c11,ro.c12,ro.c13,ro.c14,O Ae ne ce] 29)).alloc (ag #[code] 3)).alloc (ag #[C D 0,C D 0,C D 0,C D 0] 78)).heap.size=w.heap.size+3:=aG;rw[bV] at HV;rw[hsz1] at HW2;clear bV hsz1 HG HW;generalize pJ (pJ (pJ _ _) _) _=W0 at*;refine(HI _ _ aT I (HW2.cell 0)).mono ?_;rintro e w1 ⟨⟨r,rfl,hr,hd⟩,aB⟩;have aM:=G (bS aB aT);have zZ:=G (uz.below aB I);have HV1:=G (HV.below aB I);have g4:=zZ.cell 4;simp only[iH,iX,iI] at g4;have F7:=G (HR.fV hB (aC _) aM);have iB:=HV1.frozen;obtain⟨y0,y1,y2,y3⟩:=zB HV1;clear aB aT HI uz HV HR;cases an
 ·have k1:decide (r<0)=Z:=by rw[decide_eq_false_iff_not] at hd;rw[decide_eq_true_eq];omega
  go_wp2_with fail;have eH:=Td (a:=C D 0) (b:=C D 0) (c:=C D 0) (d:=C D 0) aM (show w.heap.size<=w.heap.size+1+1 by omega);have jM:=Lg (a':=C D 0) (b':=C D 0) (c':=C D 0) (d':=C D 0) HV1;generalize Bp _ ⟨w.heap.size+1+1,3,J⟩ _=wz at*;obtain⟨z0,z1,z2,z3⟩:=zB jM;refine eX (v:=bz #[aD #[C D 0,C D 0,C D 0,C D 0],X]) ?_ rfl ⟨⟨0,0,0,0,rfl⟩,eH⟩;simp[results,results15,go_sem,z0,z1,z2,z3]
 have h0:0<=r:=by rw[decide_eq_true_eq] at hd;exact hd
 obtain⟨q,rfl⟩:∃q:Nat,r=(q:Int):=⟨r.toNat,I⟩;have k1:decide ((q:Int)<0)=X:=fI;obtain⟨ad,rfl,_,c0,c1,c2,c3⟩:=F7.SY (k:=q) I;generalize ch.getD q ay=x at*;obtain⟨x0,x1,x2,x3⟩:=x;simp only[] at c0 c1 c2 c3;clear hd h0;go_wp2_with fail;have eH:=Td (a:=C D x0) (b:=C D x1) (c:=C D x2) (d:=C D x3) aM (show w.heap.size<=w.heap.size+1+1 by omega);have jM:=Lg (a':=C D x0) (b':=C D x1) (c':=C D x2) (d':=C D x3) HV1;generalize Bp _ ⟨w.heap.size+1+1,3,J⟩ _=wz at*;obtain⟨z0,z1,z2,z3⟩:=zB jM;refine eX (v:=bz #[aD #[x0,x1,x2,x3],Z]) ?_ rfl ⟨⟨x0,x1,x2,x3,rfl⟩,eH⟩;simp[results,results15,go_sem,z0,z1,z2,z3]
theorem amB{a b c a' b' c':ak}(h:ai w g T #[a,b,c]):ai (((w.setCell ⟨g,0,J⟩ a').setCell ⟨g,1,J⟩ b').setCell ⟨g,2,J⟩ c') g T #[a',b',c']:=by have:=((h.bL 0 a').bL 1 b').bL 2 c';simpa using this
theorem amC{w0:Y}{a b c:ak}(h:aj B w0 w)(hB:B<=g):aj B w0 (((w.setCell ⟨g,0,J⟩ a).setCell ⟨g,1,J⟩ b).setCell ⟨g,2,J⟩ c):=((h.setCell (p:=⟨g,0,J⟩) hB a).setCell (p:=⟨g,1,J⟩) hB b).setCell (p:=⟨g,2,J⟩) hB c
theorem azI{g':Nat}{cs:Array ak}{a b c:ak}(h:ai w g' T cs)(aY:g≠g'):ai (((w.setCell ⟨g,0,J⟩ a).setCell ⟨g,1,J⟩ b).setCell ⟨g,2,J⟩ c) g' T cs:=((h.far (p:=⟨g,0,J⟩) (EO aY) a).far (p:=⟨g,1,J⟩) (EO aY) b).far (p:=⟨g,2,J⟩) (EO aY) c
theorem aew{a0 a1 a2:ak}(h:ai w g T #[a0,a1,a2]):w.cell? ⟨g,0,J⟩=N a0/\w.cell? ⟨g,1,J⟩=N a1/\w.cell? ⟨g,2,J⟩=N a2:=⟨h.cell 0,h.cell 1,h.cell 2⟩
theorem azJ(args:Array ak)(w:Y):(callFunc 189 args).run aa w= .ok (.enter 189 args) w:=by simp[go_sem]
theorem azK(a b c d e f:Int)(w:Y):aF aa 189 #[aD #[a,b,c],aD #[d,e,f]] w (R1 w):=by go_enter func189,ntmps189;go_wp2_with fail;all_goals(go_ret;exact R1.mk _)
theorem azL(xs:List ib)(A:Option aK)(n c B:Nat)(w:Y)(hr:Reads w B 3 A n (Gm xs))(hB:B<=w.heap.size)(hn:n<=1000)(h0:0<n):
  aF aa 188 #[O A n c,.func (.func 189) #[] #[]] w λe w'=>(∃a b c:Int,e=aI (aD #[C D a,C D b,C D c]))/\aj w.heap.size w w':=by
 have HR:=G hr;have oo:=azJ;clear hr;obtain⟨ad,rfl,dU,c0,c1,c2⟩:=HR.E.Wx h0;rw[Nat.zero_mul] at c0 c1 c2;simp only[show ad.add 0=ad from rfl] at c0 c1 c2;generalize xs.getD 0 ay=x at*;obtain⟨x0,x1,x2⟩:=x;simp only[] at c0 c1 c2;have kP:ad.block<w.heap.size:=I;have k1:decide ((n:Int)<1)=X:=fI;go_enter func188,ntmps188;go_wp2_with fail;have aP:=G (bJ (bJ (bQ w) (ag #[C D 0,C D 0,C D 0] 226)) (ag #[C D x0,C D x1,C D x2] 226));have dC:=G (ai.new (w.alloc (ag #[C D 0,C D 0,C D 0] 226)) 226 #[C D x0,C D x1,C D x2]);have HY0:=G ((ai.new w 226 #[C D 0,C D 0,C D 0]).alloc (ag #[C D x0,C D x1,C D x2] 226));have bV:(w.alloc (ag #[C D 0,C D 0,C D 0] 226)).heap.size=w.heap.size+1:=aG;rw[bV] at dC;clear bV c0 c1 c2;generalize pJ (pJ _ _) _=W0 at*;go_loopw [6] (λi wr=>∃k:Nat,k<=n/\i=C D k/\aj w.heap.size w wr/\ai wr w.heap.size 226 #[C D 0,C D 0,C D 0]/\∃a b c:Int,ai wr (w.heap.size+1) 226 #[C D a,C D b,C D c]) (λi _=>n-(intOf i).toNat);case atStart=>exact⟨1,I,rfl,aP.E,HY0.E,_,_,_,dC.E⟩
 obtain⟨k,hk,rfl,aH,hy,a,b,c',hx⟩:=hrel;obtain⟨wo,rfl⟩:=dz wr;clear dC aP HY0;have HX:=G hx;have HY:=G hy;have sW:=hx.lt;have y0:wo.cell? ⟨w.heap.size+1,0,J⟩=N (C D a):=hx.cell 0;have y1:wo.cell? ⟨w.heap.size+1,1,J⟩=N (C D b):=hx.cell 1;have y2:wo.cell? ⟨w.heap.size+1,2,J⟩=N (C D c'):=hx.cell 2;obtain⟨z0,z1,z2⟩:=aew hy;have hfy:=hy.frozen;clear hx hy;by_cases aO:k<n
 ·have b15:(k:Int)<(n:Int):=by omega
  obtain⟨Hf,Cg,jM,c0,c1,c2⟩:=(HR.E.fV hB (aC _) aH).Wx aO;injection Cg with Cg;subst Cg;generalize xs.getD k ay=x at*;obtain⟨x0,x1,x2⟩:=x;simp only[] at c0 c1 c2;go_upto_region 7 with fail;refine iA (S:=λu=>u.cell? ⟨w.heap.size+1,0,J⟩=N (C D a)/\u.cell? ⟨w.heap.size+1,1,J⟩=N (C D b)/\u.cell? ⟨w.heap.size+1,2,J⟩=N (C D c')/\u.cell? (ad.add (k*3))=N (C D x0)/\u.cell? ⟨(ad.add (k*3)).block,(ad.add (k*3)).off+1,J⟩=N (C D x1)/\u.cell? ⟨(ad.add (k*3)).block,(ad.add (k*3)).off+2,J⟩=N (C D x2)) dh ⟨y0,y1,y2,c0,c1,c2⟩ (λbg=>?_);refine aA 0 ?_;refine aA 1 ?_;refine aA 2 ?_;refine aA 3 ?_;refine aA 4 ?_;refine aA 5 ?_;refine bK 6 (λK hK=>?_);go_simp;refine(azK x0 x1 x2 a b c' _).mono ?_;rintro e' w1 ⟨⟨r,rfl⟩,aB⟩;have pG:aj wo.heap.size wo w1:=bS aB (kD (bQ wo));have aM:=G (bS pG aH);have bO:=G (HX.E.below pG sW);have HY1:=G (HY.E.below pG I);obtain⟨y0,y1,y2⟩:=aew bO.E;have tT:=bO.E.frozen;have mK:(ad.add (k*3)).block<wo.heap.size:=by rw[zX];have:=aH.size;omega
  have d0:=(pG.cell (p:=ad.add (k*3)) mK).trans c0;have d1:=(pG.cell (p:=⟨(ad.add (k*3)).block,(ad.add (k*3)).off+1,J⟩) mK).trans c1;have d2:=(pG.cell (p:=⟨(ad.add (k*3)).block,(ad.add (k*3)).off+2,J⟩) mK).trans c2;go_simp;refine bF hK ⟨y0,y1,y2,d0,d1,d2⟩ (λOG=>?_);clear hK K aB pG bg c0 c1 c2 aH;refine aA 7 ?_;refine gI ?_;clear OG;go_wp2_with fail;·refine⟨⟨k+1,I,bR,amC aM.E I,azI HY1.E I,_,_,_,amB bO.E⟩,bW⟩
  exact⟨⟨k+1,I,bR,aM.E,HY1.E,_,_,_,bO.E⟩,bW⟩
 go_wp2_with fail;have eH:=amC (a:=C D a) (b:=C D b) (c:=C D c') aH (aC _);have jM:=amB (a':=C D a) (b':=C D b) (c':=C D c') HY.E;generalize Bp _ ⟨w.heap.size,2,J⟩ _=wz at*;obtain⟨z0,z1,z2⟩:=aew jM;refine eX (v:=aD #[C D a,C D b,C D c']) ?_ rfl ⟨⟨_,_,_,rfl⟩,eH⟩;simp[results,results188,go_sem,z0,z1,z2]
theorem amD(l:List bE)(A:Option aK)(n c:Nat)(code:Int)(B:Nat)(w:Y)(hr:Reads w B 4 A n (jS l))(hB:B<=w.heap.size)(hn:n<=1000):
  aF aa 126 #[O A n c,code] w λe w'=>(∃(a b c d:Int) (t:Bool),e=aI (bz #[aD #[a,b,c,d],t]))/\aj w w w':=by
 refine(uP l A n c code B w hr hB I).mono ?_;rintro e w' ⟨rfl,hb⟩;refine⟨?_,hb⟩;unfold Qe;split;·exact⟨_,_,_,_,_,rfl⟩
 exact⟨_,_,_,_,_,rfl⟩
theorem azM(a b c:Int)(W:Y):(Instr.field 226 (aD #[a,b,c]) 1).run aa W= .ok (C D b) W:=by kernel_rfl
theorem amE:(aa.info? 226).map (λi=>(i.zero,i.size,i.bytes))=N (N (aD #[C D 0,C D 0,C D 0]),3,24):=by kernel_rfl
theorem azN(x:pI)(code d:Int)(B:Nat)(w:Y)(hx:Ce w B x)(hB:B<=w.heap.size)(hn:x.nc<=1000)(hl:x.nl<=1000):
  aF aa 125 #[Gp x,code,d] w (RI w):=by
 have HF:af (∀W:Y,aj w w W->aF aa 126 #[O x.Ac x.nc x.cc,code] W λe w'=>(∃(a b c d:Int) (t:Bool),e=aI (bz #[aD #[a,b,c,d],t]))/\aj W W w'):=λW hW=>amD _ _ _ _ _ B W (hx.ch.rd.fV hB (aC _) hW) lI hn;have HR:=G hx.li.rd;have HL:=G hx.li.len;clear hx;obtain⟨nm,xu,Ac,nc,cc,ch,Al,nl,cl,ls,jt⟩:=x;unfold Gp;simp only[] at HF HR HL hn hl |-;generalize(⟨nm.toArray⟩:ByteArray)=NM at*;generalize(⟨xu.toArray⟩:ByteArray)=XU at*;have aT:=bJ (bQ w) (ag #[.string NM,.string XU,O Ac nc cc,O Al nl cl,jt] 161);have dC:=G (ai.new w 161 #[.string NM,.string XU,O Ac nc cc,O Al nl cl,jt]);have bV:(w.alloc (ag #[.string NM,.string XU,O Ac nc cc,O Al nl cl,jt] 161)).heap.size=w.heap.size+1:=aG;have HD:=G (λW=>SS d W);generalize hdv:BU d=dv at*;clear hdv;go_enter func125,ntmps125;cases dv;·go_wp2_with(refine(HD _).mono ?_;rintro e wx ⟨rfl,rfl⟩);go_ret2;exact RI.mk _ _
 go_wp2_with(refine(HD _).mono ?_;rintro e wx ⟨rfl,rfl⟩);generalize pJ _ _=W0 at*;refine(HF _ aT).mono ?_;rintro e w1 ⟨⟨a,b,c,e',t,rfl⟩,aB⟩;have aM:=G (bJ (bS aB aT) (ag #[a,b,c,e'] 78));have bO:=G ((dC.below aB I).alloc (ag #[a,b,c,e'] 78));have x3:w1.cell? ⟨w,3,J⟩=N (O Al nl cl):=(dC.below aB I).cell 3;have ed:w.heap.size<w1.heap.size:=OY;clear aT aB dC HF;cases t;·go_wp2_with fail;have hb:=aM;go_ret2;exact RI.mk _ _
 go_wp2_with fail;obtain⟨i0,gz,fu,gq,fG⟩:=info_parts amE;generalize pJ w1 _=W1 at*;go_loopw [10,28] (λov iv wr=>∃(k:Nat) (acc:List ib),iv=C D k/\k<=nl/\acc.length<=k/\wr.ownsRow w 226 3 ov acc.length (acc.flatMap IG)/\aj w w wr) (λ_ iv _=>nl-(intOf iv).toNat);case atStart=>exact⟨0,[],rfl,I,aG,ng _ _ _ _,aM⟩
 obtain⟨k,acc,rfl,hk,kP,aV,aH⟩:=hrel;obtain⟨wo,rfl⟩:=dz wr;have eP:=aH.size;have HO:=G aV;have HB:=G aH;obtain⟨Ao,co,rfl⟩:=eO aV;clear aV aM bO x3;by_cases aO:k<nl
 ·have k3:decide ((k:Int)<(nl:Int))=Z:=by rw[decide_eq_true_eq];omega
  obtain⟨ad,rfl,dU,c0,c1,c2⟩:=(HR.fV hB (aC _) aH).Wx aO;generalize ls.getD k ay=x at*;obtain⟨x0,x1,x2⟩:=x;simp only[] at c0 c1 c2;have qN:=G (HO.alloc (ag #[x0,x1,x2] 226));have eY:=G (bJ aH (ag #[x0,x1,x2] 226));clear aH;have jg:=G (mX (wo.alloc (ag #[x0,x1,x2] 226)) #[x0,x1,x2] 226 3 rfl);rw[aW] at jg;cases hq:x0==code;all_goals
   go_wp2_with(at_builtin;refine pX _ rfl (.tmp 42) (.tmp 44) _ rfl w.heap.size 226 i0 _ 3 24 underlying159 gz fu gq fG rfl I _ acc.length (acc.flatMap IG) rfl (qN.alloc _) (wo.heap.size+1+1) (N ⟨wo.heap.size+1,0,J⟩) 1 1 [C D x0,C D x1,C D x2] rfl jg rZ lH I bB ?_;intro v6 w6 dw bU iT;have dJ:=(bJ eY (ag #[x0,x1,x2] 226)).trans (tu (qN.alloc _) bU bB);have rW:w6.ownsRow w 226 3 v6 (acc++ [ib.mk x0 x1 x2]).length ((acc++ [ib.mk x0 x1 x2]).flatMap IG):=(by rw[eB,List.flatMap_append];exact dw);clear dw bU iT)
  all_goals first
   |exact⟨⟨k+1,acc,bR,I,I,qN,eY⟩,bW⟩
   |exact⟨⟨k+1,acc++ [ib.mk x0 x1 x2],bR,I,Fe,rW,dJ⟩,bW⟩
 have k3:decide ((k:Int)<(nl:Int))=X:=by rw[decide_eq_false_iff_not];omega
 by_cases h0:acc.length=0
 ·have k4:decide ((acc.length:Int)=0)=Z:=by rw[decide_eq_true_eq];omega
  clear aH;go_wp2_with fail;have hb:=HB;all_goals(go_ret2;exact RI.mk _ _)
 have k4:decide ((acc.length:Int)=0)=X:=by rw[decide_eq_false_iff_not];omega
 have HM:=G (azL acc Ao acc.length co wo wo (Reads.uA HO) (aC _) I I);clear aH;go_wp2_with fail;refine HM.mono ?_;rintro e w2 ⟨⟨a2,b2,c2,rfl⟩,aJ⟩;have hb:=bS aJ HB;have hfl:=azM a2 b2 c2 w2;go_wp2_with fail;go_ret2;exact RI.mk _ _
structure pU(W:Y)(B:Nat)(g:gm):Prop where
 mH:zC W B g
 nc:g.nc<=1000
 en:∀x∈g.dS,x.nc<=1000
 el:∀x∈g.dS,x.nl<=1000
theorem pU.low{g:gm}(h:pU w B g)(hB:B<=w.heap.size)(hb:aj w w w'):pU w' B g:=⟨h.mH.low hB (aC _) hb,h.nc,h.en,h.el⟩
theorem aex(g:gm)(B:Nat)(w:Y)(hg:pU w B g)(hB:B<=w.heap.size):aF aa 171 #[aD (dx g)] w (RB w):=(avB g B w hg.mH hB hg.nc hg.en).mono λe w' ⟨h,hb⟩=>⟨⟨_,h⟩,hb⟩
theorem amF(g:gm)(code:Int)(B:Nat)(w:Y)(hg:pU w B g)(hB:B<=w.heap.size):
  aF aa 15 #[aD (dx g),code] w λe w'=>(∃(a b c d:Int) (t:Bool),e=aI (bz #[aD #[a,b,c,d],t]))/\aj w w w':=(amz g code B w hg.mH hB hg.nc).mono λe w' ⟨⟨a,b,c,d,h⟩,hb⟩=>⟨⟨a,b,c,d,_,h⟩,hb⟩
theorem Cw(g:gm):(dx g).size=21:=rfl
theorem Jg(g:gm):(dx g)[0]?=N (au ⟨g.cur.toArray⟩)/\(dx g)[1]?=N (C D g.year)/\(dx g)[2]?=N (C D g.month)/\(dx g)[3]?=N (C D g.Cb)/\(dx g)[4]?=N (O g.Ac g.nc g.cc)/\(dx g)[11]?=N (C D g.dL.c6)/\(dx g)[20]?=N (O g.Ae g.ne g.ce):=⟨rfl,rfl,rfl,rfl,rfl,rfl,rfl⟩
theorem azO(g:gm)(p:Int)(B:Nat)(w:Y)(hg:pU w B g)(hB:B<=w.heap.size):
  aF aa 130 #[aD (dx g),p] w (RI w):=by
 have HV:af (∀W:Y,aj w w W->aF aa 171 #[aD (dx g)] W (RB W)):=λW hW=>aex g B W (hg.low hB hW) lI;have bV:=Cw g;obtain⟨j0,j1,j2,j3,j4,j6,j5⟩:=Jg g;generalize dx g=GC at*;have HX:=G (ai.new w 29 GC);have aT:=bJ (bQ w) (ag GC 29);clear hg;go_enter func130,ntmps130;go_wp2_with(refine vO iN _ rfl _ rfl _ bV HX ?_);refine(HV _ aT).mono ?_;rintro e w1 ⟨⟨b,rfl⟩,aB⟩;have hb:=bS aB aT;have bO:=G (HX.below aB aG);have x1:=(bO.cell 1).trans j1;have x2:=(bO.cell 2).trans j2;have x3:=(bO.cell 3).trans j3;clear aT aB HX;cases b;all_goals go_wp2_with(refine(azc _ _ _ _ _).mono ?_;rintro e w2 ⟨⟨a,b,rfl⟩,aJ⟩;dsimp only)
 all_goals(go_ret2;exact RI.mk _ _)
theorem azP(g:gm)(code:Int)(B:Nat)(w:Y)(hg:pU w B g)(hB:B<=w.heap.size):
  aF aa 195 #[aD (dx g),code] w (RB w):=by have HA:af (∀W:Y,aj w w W->_):=λW hW=>amF g code B W (hg.low hB hW) lI;have bV:=Cw g;generalize dx g=GC at*;have HX:=G (ai.new w 29 GC);have aT:=bJ (bQ w) (ag GC 29);clear hg;go_enter func195,ntmps195;go_wp2_with(refine vO iN _ rfl _ rfl _ bV HX ?_);refine(HA _ aT).mono ?_;rintro e w1 ⟨⟨a,b,c,d,t,rfl⟩,aB⟩;have hb:=bS aB aT;clear aT aB HX;go_wp2_with fail;all_goals(go_ret;exact RB.mk _)
theorem azQ(g:gm)(c d l:Int)(B:Nat)(w:Y)(hg:pU w B g)(hB:B<=w.heap.size):
  aF aa 131 #[aD (dx g),c,d,l] w (R1 w):=by
 have HA:af (∀W:Y,aj w w W->_):=λW hW=>azP g c B W (hg.low hB hW) lI;have bV:=Cw g;obtain⟨j0,j1,j2,j3,j4,j6,j5⟩:=Jg g;generalize dx g=GC at*;have HX:=G (ai.new w 29 GC);have aT:=bJ (bQ w) (ag GC 29);clear hg;go_enter func131,ntmps131;cases hq:decide (d<l);·go_wp2_with fail;go_ret;exact R1.mk _
 go_wp2_with(refine vO iN _ rfl _ rfl _ bV HX ?_);refine(HA _ aT).mono ?_;rintro e w1 ⟨⟨b,rfl⟩,aB⟩;have hb:=bS aB aT;have bO:=G (HX.below aB aG);have x11:=(bO.cell 11).trans j6;clear aT aB HX;cases b;all_goals go_wp2_with fail
 all_goals(go_ret;exact R1.mk _)
theorem azR(g:gm)(c d p:Int)(B:Nat)(w:Y)(hg:pU w B g)(hB:B<=w.heap.size):
  aF aa 68 #[aD (dx g),c,d,p] w (RI w):=by
 have HC:af (∀(p:Int) (W:Y),aj w w W->_):=λp W hW=>azO g p B W (hg.low hB hW) lI;have HA:af (∀W:Y,aj w w W->_):=λW hW=>amF g c B W (hg.low hB hW) lI;have HS:af (∀(l:Int) (W:Y),aj w w W->_):=λl W hW=>azQ g c d l B W (hg.low hB hW) lI;have bV:=Cw g;generalize dx g=GC at*;have HX:=G (ai.new w 29 GC);have aT:=bJ (bQ w) (ag GC 29);clear hg;go_enter func68,ntmps68;go_wp2_with(refine vO iN _ rfl _ rfl _ bV HX ?_);refine(HC _ _ aT).mono ?_;rintro e w1 ⟨⟨a,b,rfl⟩,aB⟩;have hb:=bS aB aT;have bO:=G (HX.below aB aG);have ed:w.heap.size<w1.heap.size:=bO.lt;clear aT aB HX;cases hq:b==0;·go_wp2_with fail;go_ret2;exact RI.mk _ _
 go_wp2_with(refine vO iN _ rfl _ rfl _ bV bO ?_);refine(HA _ hb).mono ?_;rintro e w2 ⟨⟨a1,a2,a3,a4,t,rfl⟩,aJ⟩;have aS:=G (bJ (bS aJ hb) (ag #[a1,a2,a3,a4] 78));have eu:=G ((bO.below aJ ed).alloc (ag #[a1,a2,a3,a4] 78));clear hb aJ bO ed;cases t;·go_wp2_with fail;have hb:=aS;go_ret2;exact RI.mk _ _
 go_wp2_with(refine vO iN _ rfl _ rfl _ bV eu ?_);refine(HS _ _ aS).mono ?_;rintro e w3 ⟨⟨a5,rfl⟩,aR⟩;have hb:=bS aR aS;go_wp2_with fail;go_ret2;exact RI.mk _ _
def jJ(x:gV):Array ak:=#[x.id,x.bD,x.date,x.kind,x.of,x.text,O x.A x.n x.c]
theorem XT(x:gV):(jJ x).size=7:=rfl
theorem Ku(x:gV):(jJ x)[0]?=N (C D x.id)/\(jJ x)[1]?=N (C D x.bD)/\(jJ x)[2]?=N (C D x.date)/\(jJ x)[3]?=N (C D x.kind)/\(jJ x)[4]?=N (C D x.of)/\(jJ x)[5]?=N (au ⟨x.text.toArray⟩)/\(jJ x)[6]?=N (O x.A x.n x.c):=⟨rfl,rfl,rfl,rfl,rfl,rfl,rfl⟩
theorem XV:(aa.info? 90).map (·.size)=N 7:=by kernel_rfl
theorem Uk{ops:Array Oper}{rest:List Oper}{o:Oper}{a:Act}{Q:Exit->Act->Y->Prop}(hw:sZ o (yielded ops a.tmps)=Z)(x:Operand)(ho:o.op= .load 90 x)
  (g:Nat) (hx:a.eval x=aQ g) (cs:Array ak) (hs:cs.size=7) (hg:ai w g 90 cs) (h:wpList aa ops Q rest (a.put o.dst (aD cs)) w):wpList aa ops Q (o::rest) a w:=BigFrame.wpList_want hw λK hK=>wp_load_row 90 x ho g hx 90 cs (0,0) _ hg underlying90 rfl (by rw[XV,hs]) (hK _ _ h)
theorem azS(s:List UInt8)(w:Y)(hs:s.length<=9223372036854775807):aF aa 280 #[s] w (RB w):=by
 go_enter func280,ntmps280;go_wp2_with fail;go_loopw [6] (λi wr=>∃k:Nat,k<=s.length/\i=C D k/\aj w w wr) (λi _=>s.length-(intOf i).toNat);case atStart=>exact⟨0,I,rfl,bQ w⟩
 obtain⟨k,hk,rfl,aH⟩:=hrel;by_cases aO:k<s.length
 ·have b1:(k:Int)<(s.length:Int):=by omega
  have b2:(0:Int)<=(k:Int):=I;go_wp2_with fail;all_goals first
   |exact⟨⟨k+1,I,bR,aH⟩,bW⟩
   |(go_ret;exact RB.mk _)
 go_wp2_with fail;all_goals(go_ret;exact RB.mk _)
theorem azT(l:List GV)(A:Option aK)(n c B:Nat)(w:Y)(hr:Reads w B 3 A n (l.flatMap xY))(hB:B<=w.heap.size)(hn:n<=1000):aF aa 281 #[O A n c] w (R1 w):=by
 have HR:=G hr;clear hr;go_enter func281,ntmps281;go_wp2_with fail;go_loopw [3,8] (λsv i wr=>∃(k:Nat) (s:Int),k<=n/\i=C D k/\sv=C D s/\aj w w wr) (λ_ i _=>n-(intOf i).toNat);case atStart=>exact⟨0,0,I,rfl,rfl,bQ w⟩
 obtain⟨k,s,hk,rfl,rfl,aH⟩:=hrel;obtain⟨wo,rfl⟩:=dz wr;by_cases aO:k<n;·obtain⟨ad,rfl,_,c0,c1,c2⟩:=(HR.fV hB (aC _) aH).QZ aO;generalize l.getD k ay=x at*;obtain⟨x0,x1,x2⟩:=x;simp only[] at c0 c1 c2;have dJ:=bJ aH (ag #[x0,x1,x2] 165);go_wp2_with fail;exact⟨⟨k+1,_,I,bR,rfl,dJ⟩,bW⟩
 go_wp2_with fail;go_ret;exact R1.mk _
theorem azU(g:gm)(x:gV)(B:Nat)(w:Y)(hg:pU w B g)(hx:xm w B x)(hB:B<=w.heap.size):aF aa 233 #[aD (dx g),aD (jJ x)] w (R1 w):=by have HS:af (∀W:Y,aj w w W->_):=λW hW=>azT x.ls x.A x.n x.c B W (hx.low hB (aC _) hW).rd lI hx.le;obtain⟨i0,i1,i2,i3,i4,i5,i6⟩:=Ku x;generalize dx g=GC at*;generalize jJ x=EA at*;have aT:=bJ (bJ (bQ w) (ag GC 29)) (ag EA 90);have x6:=(ai.new (w.alloc (ag GC 29)) 90 EA).cell 6;rw[aW,i6] at x6;clear hg hx;go_enter func233,ntmps233;go_wp2_with(refine(HS _ aT).mono ?_;rintro e w1 ⟨⟨a,rfl⟩,aB⟩;dsimp only);all_goals(go_ret;exact R1.mk _)
theorem azV(g:gm)(x:gV)(w:Y):aF aa 232 #[aD (dx g),aD (jJ x)] w (R1 w):=by obtain⟨j0,j1,j2,j3,j4,j6,j5⟩:=Jg g;obtain⟨i0,i1,i2,i3,i4,i5,i6⟩:=Ku x;generalize dx g=GC at*;generalize jJ x=EA at*;have aT:=bJ (bJ (bQ w) (ag GC 29)) (ag EA 90);have x2:=(ai.new (w.alloc (ag GC 29)) 90 EA).cell 2;have HG:=(ai.new w 29 GC).alloc (ag EA 90);have y1:=(HG.cell 1).trans j1;have y2:=(HG.cell 2).trans j2;have y3:=(HG.cell 3).trans j3;rw[aW,i2] at x2;clear HG;go_enter func232,ntmps232;go_wp2_with(refine(azg _ _ _ _ _).mono ?_;rintro e w1 ⟨⟨a,b,rfl⟩,aB⟩;dsimp only);all_goals(go_ret;exact R1.mk _)
theorem amG(h:R:=by
  cases t;·go_wp2_with fail;go_ret;exact R1.mk _
  ·go_wp2_with fail;exact⟨⟨k+1,I,bR,eH,hgz,Bi⟩,bW⟩):R:=h
theorem azW(g:gm)(x:gV)(B:Nat)(w:Y)(hg:pU w B g)(hx:xm w B x)(hB:B<=w.heap.size)(h0:0<=x.bD)(h1:x.bD<g.ne):aF aa 231 #[aD (dx g),aD (jJ x)] w (R1 w):=by
 obtain⟨q,hq⟩:∃q:Nat,x.bD=(q:Int):=⟨x.bD.toNat,I⟩;have hqn:q<g.ne:=I;have hql:q<g.dS.length:=by rw[Oc hg.mH.en];exact hqn
 have dK:g.dS.getD q ay∈g.dS:=by simp[dO,hql]
 have HF:af (∀(c:Int) (W:Y),aj w w W->_):=λc W hW=>amD _ (g.dS.getD q ay).Ac (g.dS.getD q ay).nc (g.dS.getD q ay).cc c B W ((hg.mH.ok _ dK).ch.rd.fV hB (aC _) hW) lI (hg.en _ dK);have HE:=G hg.mH.en;have HR:=G hx.rd;have Tn:=hx.le;obtain⟨j0,j1,j2,j3,j4,j6,j5⟩:=Jg g;obtain⟨i0,i1,i2,i3,i4,i5,i6⟩:=Ku x;rw[hq] at i1;clear hg hx hql dK h0 h1 hq;have b7:(q:Int)<(g.ne:Int):=I;have b8:(0:Int)<=(q:Int):=I;generalize dx g=GC at*;generalize jJ x=EA at*;have aP:=G (bJ (bJ (bQ w) (ag GC 29)) (ag EA 90));have lg:=G (ai.new (w.alloc (ag GC 29)) 90 EA);have vX:=G ((ai.new w 29 GC).alloc (ag EA 90));have ed:(w.alloc (ag GC 29)).heap.size=w.heap.size+1:=aG;rw[ed] at lg;have x6:=(lg.cell 6).trans i6;clear ed;go_enter func231,ntmps231;go_wp2_with fail;generalize pJ (pJ _ _) _=W0 at*;go_loopw [12] (λi wr=>∃k:Nat,k<=x.n/\i=C D k/\aj w w wr/\ai wr w 29 GC/\ai wr (w.heap.size+1) 90 EA) (λi _=>x.n-(intOf i).toNat);case atStart=>exact⟨0,I,rfl,aP,vX,lg⟩
 obtain⟨k,hk,rfl,aH,hgb,GX⟩:=hrel;obtain⟨wo,rfl⟩:=dz wr;clear aP vX lg x6;have vX:=G hgb;have lg:=G GX;have ed:=GX.lt;clear hgb GX;by_cases aO:k<x.n
 ·obtain⟨ad,mK,_,c0,c1,c2⟩:=(HR.fV hB (aC _) aH).QZ aO;obtain⟨ae,hae,hbe,d0,d1,d2,d3,d4⟩:=(HE.fV hB (aC _) aH).Ta hqn;rw[hae] at j5;rw[mK];generalize x.ls.getD k ay=y at*;generalize g.dS.getD q ay=z at*;obtain⟨y0,y1,y2⟩:=y;obtain⟨z0,z1,z2,z3,z4,z5,z6,z7,z8,z9,z10⟩:=z;simp only[] at c0 c1 c2 d0 d1 d2 d3 d4 HF;obtain⟨wa,oK⟩:∃wa:Y,wa=wo.alloc (ag #[y0,y1,y2] 165):=⟨_,rfl⟩;have nN:af (aj w w wa):=by show aj _ _ _;rw[oK];exact bJ aH _
  have jB:aj wo wo wa:=by rw[oK];exact bJ (bQ wo) _
  have WJ:af (ai wa wo 165 #[y0,y1,y2]):=UM;have Gu:=G (vX.below jB I);have Ul:=G (lg.below jB ed);have e20:=(Gu.cell 20).trans j5;have f1:=(Ul.cell 1).trans i1;have l0:wa.cell? ⟨wo,0,J⟩=N (C D y0):=WJ.cell 0;have azX:(ae.add (q*5)).block<wo.heap.size:=by rw[zX];have:=aH.size;omega
  have d2':=(jB.cell (p:=⟨(ae.add (q*5)).block,(ae.add (q*5)).off+2,J⟩) azX).trans d2;go_upto_region 4 with fail;rw[<-oK];have fw:wo.heap.size+1=wa.heap.size:=by rw[oK];simp
  have hsA:=Gu.lt;have hsB:=Ul.lt;clear oK c0 c1 c2 d0 d1 d2 d3 d4 aH vX lg;have HS:af (∀u,aj wa wa u->u.cell? ⟨w,20,J⟩=N (O (N ae) g.ne g.ce)/\u.cell? ⟨w.heap.size+1,1,J⟩=N (C D q)/\u.cell? ⟨(ae.add (q*5)).block,(ae.add (q*5)).off+2,J⟩=N (O z2 z3 z4)/\u.cell? ⟨wo,0,J⟩=N (C D y0)):=λu h=>⟨(h.cell (p:=⟨w,20,J⟩) (show w.heap.size<wa.heap.size by omega)).trans e20,(h.cell (p:=⟨w.heap.size+1,1,J⟩) (show w.heap.size+1<wa.heap.size by omega)).trans f1,(h.cell (p:=⟨(ae.add (q*5)).block,(ae.add (q*5)).off+2,J⟩) (show(ae.add (q*5)).block<wa.heap.size by omega)).trans d2',(h.cell (p:=⟨wo,0,J⟩) (show wo.heap.size<wa.heap.size by omega)).trans l0⟩;clear e20 f1 d2' l0;refine iA (S:=λu=>u.cell? ⟨w,20,J⟩=N (O (N ae) g.ne g.ce)/\u.cell? ⟨w.heap.size+1,1,J⟩=N (C D q)/\u.cell? ⟨(ae.add (q*5)).block,(ae.add (q*5)).off+2,J⟩=N (O z2 z3 z4)/\u.cell? ⟨wo,0,J⟩=N (C D y0)) dh (HS _ (kD (bQ wa))) (λbg=>?_);refine aA 0 ?_;refine aA 1 ?_;refine aA 2 ?_;refine aA 3 ?_;refine aA 4 ?_;refine aA 5 ?_;refine aA 6 ?_;refine aA 7 ?_;refine aA 8 ?_;refine uF 9 13 (λK hK=>?_) (λK hK=>?_);·go_simp;refine(HF y0 _ (kD nN)).mono ?_;rintro e' w1 ⟨⟨a1,a2,a3,a4,t,rfl⟩,aB⟩;have HBC:=G (bS aB (kD (bQ wa)));clear aB;go_simp;refine bF hK (HS _ HBC) (λbg=>?_);clear hK K;refine aA 10 ?_;refine aA 11 ?_;refine aA 12 ?_;refine bK 13 (λK hK=>?_);go_simp;have yO:=G (bJ HBC (ag #[C D 0,C D 0,C D 0,C D 0] 78));have HV:=G (ai.new w1 78 #[C D 0,C D 0,C D 0,C D 0]);refine bF hK (HS _ yO) (λbg=>?_);clear hK K;refine bK 14 (λK hK=>?_);have iB:=HV.frozen;obtain⟨v0,v1,v2,v3⟩:=zB HV;go_simp;have oq:=G (bJ HBC (ag #[a1,a2,a3,a4] 78));refine bF hK (HS _ oq) (λbg=>?_);clear hK K v0 v1 v2 v3 iB;refine aA 15 ?_;refine gI ?_;have eH:=bS oq nN;have hgz:=Gu.below oq hsA;have Bi:=Ul.below oq hsB;generalize pJ w1 _=wz at*;exact amG
  go_simp;have xH:=G (bJ (kD (bQ wa)) (ag #[C D 0,C D 0,C D 0,C D 0] 78));have HU:=G (ai.new wa.drew 78 #[C D 0,C D 0,C D 0,C D 0]);refine bF hK (HS _ xH) (λbg=>?_);clear hK K;refine bK 9 (λK hK=>?_);go_simp;refine(HF y0 _ (bS xH nN)).mono ?_;rintro e' w1 ⟨⟨a1,a2,a3,a4,t,rfl⟩,aB⟩;have yO:=G (bS aB xH);have HV:af (ai w1 wa 78 #[C D 0,C D 0,C D 0,C D 0]):=HU.below aB HU.lt;clear aB;go_simp;refine bF hK (HS _ yO) (λbg=>?_);clear hK K;refine aA 10 ?_;refine aA 11 ?_;refine aA 12 ?_;refine bK 14 (λK hK=>?_);have iB:=HV.frozen;obtain⟨v0,v1,v2,v3⟩:=zB HV;go_simp;have oq:=G (Td (a:=C D a1) (b:=C D a2) (c:=C D a3) (d:=C D a4) yO (show wa.heap.size<=wa.heap.size by omega));refine bF hK (HS _ oq) (λbg=>?_);clear hK K v0 v1 v2 v3 iB;refine aA 15 ?_;refine gI ?_;have eH:=bS oq nN;have hgz:=Gu.below oq hsA;have Bi:=Ul.below oq hsB;generalize Bp _ ⟨wa,3,J⟩ _=wz at*;exact amG
 go_wp2_with fail;go_ret;exact R1.mk _
def EnE(g:gm)(x:gV)(w:Y)(e:Ending)(w':Y):Prop:=(∃a:Int,e=aI a/\(a=0->0<=x.bD/\x.bD<g.ne))/\aj w w w'
theorem azY(g:gm)(x:gV)(B:Nat)(w:Y)(hg:pU w B g)(hx:xm w B x)(hB:B<=w.heap.size):aF aa 230 #[aD (dx g),aD (jJ x)] w (EnE g x w):=by
 have HV:af (∀W:Y,aj w w W->aF aa 171 #[aD (dx g)] W (RB W)):=λW hW=>aex g B W (hg.low hB hW) lI;have HP:=G (λW=>azS x.text W hx.tx);have HR:=G hx.rd;have Tn:=hx.le;have bV:=Cw g;obtain⟨j0,j1,j2,j3,j4,j6,j5⟩:=Jg g;obtain⟨i0,i1,i2,i3,i4,i5,i6⟩:=Ku x;clear hg hx;unfold EnE;generalize g.ne=ne at*;generalize x.bD=xe at*;generalize x.n=xn at*;generalize(⟨x.text.toArray⟩:ByteArray)=TX at*;generalize dx g=GC at*;generalize jJ x=EA at*;have aP:=G (bJ (bJ (bQ w) (ag GC 29)) (ag EA 90));have lg:=G (ai.new (w.alloc (ag GC 29)) 90 EA);have vX:=G ((ai.new w 29 GC).alloc (ag EA 90));have ed:(w.alloc (ag GC 29)).heap.size=w.heap.size+1:=aG;rw[ed] at lg;have e20:=(vX.cell 20).trans j5;clear ed;go_enter func230,ntmps230;go_wp2_with(refine vO iN _ rfl _ rfl _ bV vX ?_);have lY:w.heap.size+1<(pJ (w.alloc (ag GC 29)) (ag EA 90)).heap.size:=lg.lt;generalize pJ (pJ _ _) _=W0 at*;refine(HV _ aP).mono ?_;rintro e w1 ⟨⟨v,rfl⟩,aB⟩;have aM:=G (bS aB aP);have kK:=G (lg.below aB lY);have f0:=(kK.cell 0).trans i0;have f1:=(kK.cell 1).trans i1;have f3:=(kK.cell 3).trans i3;have f4:=(kK.cell 4).trans i4;have f5:=(kK.cell 5).trans i5;clear aB aP vX lg e20 HV;generalize x.id=xid at*;generalize x.kind=xk at*;generalize x.of=xo at*;have QF:∀(a:Int),a≠0->(a=0->0<=xe/\xe<(ne:Int)):=λa h h'=>absurd h' h;cases v;·go_wp2_with fail;go_ret;exact⟨⟨_,rfl,QF _ aL⟩,aM⟩
 by_cases h1:xe<0;·go_wp2_with fail;all_goals(go_ret;exact⟨⟨_,rfl,QF _ aL⟩,aM⟩)
 have k1:decide (xe<0)=X:=MU;by_cases h2:xe>=(ne:Int)
 ·have k2:decide (xe>=(ne:Int))=Z:=by simpa using h2
  have k2':decide ((ne:Int)<=xe)=Z:=k2;go_wp2_with fail;all_goals(go_ret;exact⟨⟨_,rfl,QF _ aL⟩,aM⟩)
 have k2:decide (xe>=(ne:Int))=X:=by simpa using h2
 have k2':decide ((ne:Int)<=xe)=X:=k2;have HQ:af (0<=xe/\xe<(ne:Int)):=⟨I,I⟩;clear h1 h2;go_wp2_with fail;all_goals(try(go_ret;exact⟨⟨_,rfl,QF _ aL⟩,aM⟩))
 all_goals
  refine(HP _).mono ?_;rintro e w2 ⟨⟨v2,rfl⟩,aJ⟩;have aS:=G (bS aJ aM);have ed:w.heap.size+1<w1.heap.size:=kK.lt;have q9:=G (kK.below aJ ed);have g6:=(q9.cell 6).trans i6;clear aJ;cases v2;case false=>go_wp2_with fail;go_ret;exact⟨⟨_,rfl,QF _ aL⟩,aS⟩
  go_wp2_with fail;all_goals(try(go_ret;exact⟨⟨_,rfl,QF _ aL⟩,aS⟩))
  go_loopw [64] (λi wr=>∃k:Nat,k<=xn/\i=C D k/\aj w w wr/\ai wr (w.heap.size+1) 90 EA) (λi _=>xn-(intOf i).toNat);case atStart=>exact⟨0,I,rfl,aS,q9⟩
  obtain⟨k,hk,rfl,aH,GX⟩:=hrel;obtain⟨wo,rfl⟩:=dz wr;have lg:=G GX;have fw:=GX.lt;have q1:=(GX.cell 1).trans i1;clear GX f0 f1 f3 f4 f5 g6;by_cases aO:k<xn
  ·obtain⟨ad,mK,_,c0,c1,c2⟩:=(HR.fV hB (aC _) aH).QZ aO;generalize x.A=A at*;subst mK;generalize x.ls.getD k ay=y at*;obtain⟨y0,y1,y2⟩:=y;simp only[] at c0 c1 c2;have bC:=G (bJ aH (ag #[y0,y1,y2] 165));have EE:=G (ai.new wo 165 #[y0,y1,y2]);have xQ:=G (lg.alloc (ag #[y0,y1,y2] 165));cases hy:y1==0;case true=>go_wp2_with fail;go_ret;exact⟨⟨_,rfl,QF _ aL⟩,bC⟩
   go_wp2_with fail;refine(aes _ _).mono ?_;rintro e w4 ⟨⟨b4,rfl⟩,bu⟩;have dE:=G (bS bu bC);have zH:=G (xQ.below bu bB);have IP:=G (EE.below bu aG);have l2:w4.cell? ⟨wo,2,J⟩=N (C D y2):=IP.cell 2;have m1:=(zH.cell 1).trans i1;clear bu c0 c1 c2 q1;cases b4;all_goals go_wp2_with fail
   all_goals first
    |exact⟨⟨k+1,I,bR,dE,zH⟩,bW⟩
    |(go_ret;exact⟨⟨_,rfl,QF _ aL⟩,dE⟩)
  go_wp2_with fail;go_ret;exact⟨⟨_,rfl,λ_=>HQ⟩,aH⟩
theorem aaX(f:FuncId)(hf:f=230\/f=231\/f=232\/f=233)(args:Array ak)(w:Y):(callFunc f args).run aa w= .ok (.enter f args) w:=by rcases hf with rfl|rfl|rfl|rfl<;>simp[go_sem]
theorem azZ(W:Y):(KW 348 (aD #[.func (.func 230) #[] #[],.func (.func 231) #[] #[],.func (.func 232) #[] #[],.func (.func 233) #[] #[]]) (C D 0)).run aa W= .ok (.func (.func 230) #[] #[]) W:=by kernel_rfl
theorem az0(W:Y):(KW 348 (aD #[.func (.func 230) #[] #[],.func (.func 231) #[] #[],.func (.func 232) #[] #[],.func (.func 233) #[] #[]]) (C D 1)).run aa W= .ok (.func (.func 231) #[] #[]) W:=by kernel_rfl
theorem az1(W:Y):(KW 348 (aD #[.func (.func 230) #[] #[],.func (.func 231) #[] #[],.func (.func 232) #[] #[],.func (.func 233) #[] #[]]) (C D 2)).run aa W= .ok (.func (.func 232) #[] #[]) W:=by kernel_rfl
theorem az2(W:Y):(KW 348 (aD #[.func (.func 230) #[] #[],.func (.func 231) #[] #[],.func (.func 232) #[] #[],.func (.func 233) #[] #[]]) (C D 3)).run aa W= .ok (.func (.func 233) #[] #[]) W:=by kernel_rfl
theorem aaY(h:R:=by
  have aY:a≠0:=by simpa using hq
  go_wp2_with fail;go_ret;exact⟨⟨a,rfl,λh=>absurd h aY⟩,aM⟩):R:=h
theorem az3(g:gm)(x:gV)(B:Nat)(w:Y)(hg:pU w B g)(hx:xm w B x)(hB:B<=w.heap.size):aF aa 173 #[aD (dx g),aD (jJ x)] w (EnE g x w):=by
 have H0:af (∀W:Y,aj w w W->_):=λW hW=>azY g x B W (hg.low hB hW) (hx.low hB (aC _) hW) lI;have H1:af (∀(h0:0<=x.bD) (h1:x.bD<g.ne) (W:Y),aj w w W->_):=λh0 h1 W hW=>azW g x B W (hg.low hB hW) (hx.low hB (aC _) hW) lI h0 h1;have H2:=G (λW=>azV g x W);have H3:af (∀W:Y,aj w w W->_):=λW hW=>azU g x B W (hg.low hB hW) (hx.low hB (aC _) hW) lI;have bV:=Cw g;have Bi:=XT x;clear hg hx;unfold EnE at*;generalize g.ne=ne at*;generalize x.bD=xe at*;generalize dx g=GC at*;generalize jJ x=EA at*;have aP:=G (bJ (bJ (bQ w) (ag GC 29)) (ag EA 90));have lg:=G (ai.new (w.alloc (ag GC 29)) 90 EA);have vX:=G ((ai.new w 29 GC).alloc (ag EA 90));have ed:(w.alloc (ag GC 29)).heap.size=w.heap.size+1:=aG;rw[ed] at lg;clear ed;have Iq:=aaX _ (.inl rfl);have hc1:=aaX _ (.inr (.inl rfl));have wQ:=aaX _ (.inr (.inr (.inl rfl)));have hc3:=aaX _ (.inr (.inr (.inr rfl)));have wW:=azZ;have o9:=az0;have BH:=az1;have Be:=az2;go_enter func173,ntmps173;go_wp2_with fail;generalize pJ (pJ _ _) _=W0 at*;go_loopw [9] (λi wr=>∃k:Nat,k<=4/\i=C D k/\(1<=k->0<=xe/\xe<(ne:Int))/\aj w w wr/\ai wr w 29 GC/\ai wr (w.heap.size+1) 90 EA) (λi _=>4-(intOf i).toNat);case atStart=>exact⟨0,I,rfl,λh=>absurd h I,aP,vX,lg⟩
 obtain⟨k,hk,rfl,hq,aH,hgb,GX⟩:=hrel;obtain⟨wo,rfl⟩:=dz wr;clear aP vX lg;have vX:=G hgb;have lg:=G GX;have HQ:=G hq;have ed:=GX.lt;clear hgb GX hq;have iV:k=0\/k=1\/k=2\/k=3\/k=4:=I;rcases iV with rfl|rfl|rfl|rfl|rfl
 ·go_wp2_with(first|(refine vO iN _ rfl _ rfl _ bV vX ?_)|(refine Uk iN _ rfl _ rfl _ Bi lg ?_));refine(H0 _ aH).mono ?_;rintro e w1 ⟨⟨a,rfl,ha⟩,aB⟩;have aM:=G (bS aB aH);have yU:=vX.below aB I;have Ja:=lg.below aB ed;have HA:=G ha;clear aB aH ha;cases hq:a==0;·exact aaY
  have aY:a=0:=by simpa using hq
  go_wp2_with fail;exact⟨⟨1,I,KO,λ_=>HA aY,aM,yU,Ja⟩,Fb⟩
 ·go_wp2_with(first|(refine vO iN _ rfl _ rfl _ bV vX ?_)|(refine Uk iN _ rfl _ rfl _ Bi lg ?_));refine(H1 (HQ I).1 (HQ I).2 _ aH).mono ?_;rintro e w1 ⟨⟨a,rfl⟩,aB⟩;have aM:=G (bS aB aH);have yU:=vX.below aB I;have Ja:=lg.below aB ed;clear aB aH;cases hq:a==0;·exact aaY
  have aY:a=0:=by simpa using hq
  go_wp2_with fail;exact⟨⟨2,I,KO,λ_=>HQ I,aM,yU,Ja⟩,Fb⟩
 ·go_wp2_with(first|(refine vO iN _ rfl _ rfl _ bV vX ?_)|(refine Uk iN _ rfl _ rfl _ Bi lg ?_));refine(H2 _).mono ?_;rintro e w1 ⟨⟨a,rfl⟩,aB⟩;have aM:=G (bS aB aH);have yU:=vX.below aB I;have Ja:=lg.below aB ed;clear aB aH;cases hq:a==0;·exact aaY
  have aY:a=0:=by simpa using hq
  go_wp2_with fail;exact⟨⟨3,I,KO,λ_=>HQ I,aM,yU,Ja⟩,Fb⟩
 ·go_wp2_with(first|(refine vO iN _ rfl _ rfl _ bV vX ?_)|(refine Uk iN _ rfl _ rfl _ Bi lg ?_));refine(H3 _ aH).mono ?_;rintro e w1 ⟨⟨a,rfl⟩,aB⟩;have aM:=G (bS aB aH);have yU:=vX.below aB I;have Ja:=lg.below aB ed;clear aB aH;cases hq:a==0;·exact aaY
  have aY:a=0:=by simpa using hq
  go_wp2_with fail;exact⟨⟨4,I,KO,λ_=>HQ I,aM,yU,Ja⟩,Fb⟩
 go_wp2_with fail;go_ret;exact⟨⟨0,rfl,λ_=>HQ I⟩,aH⟩
def aaZ(w:Y)(T:bM)(S n:Nat)(xs:List ak)(e:Ending)(w':Y):Prop:=∃v,e=aI v/\w'.ownsRow w T S v n xs/\aj w w w'
theorem az4:(aa.info? 165).map (λi=>(i.zero,i.size,i.bytes))=N (N (aD #[C D 0,C D 0,C D 0]),3,24):=by kernel_rfl
theorem aa0(w:Y)(T:bM)(S:Nat):(w.alloc (ag #[] T)).ownsRow w T S (O w 0 0) 0 []:=⟨aG,.inr ⟨w.heap.size,0,#[],rfl,aC _,(ai.new w T #[]),I,aG,aG⟩⟩
theorem clS(h:R:=by
  have HR:=G hr;have H1:=G h1;cases A with
  |none=>
   have rf:n=0:=by
    rcases sw n with h|h;·exact h
    ·obtain⟨ad,h2,_⟩:=hr.2 h;cases h2
   have wW:xs= []:=List.length_eq_zero_iff.1 (by rw[hr.1,rf,Nat.zero_mul]);subst rf wW;clear hr h1;go_enter FN,NT;go_wp2_with fail;go_ret;exact⟨_,rfl,ng _ _ _ _,bQ w⟩
  |some ad=>clear hr h1;go_enter FN,NT;go_wp2_with(at_builtin;go_loud (refine pX _ rfl (.tmp 5) (.tmp 6) _ rfl w.heap.size _ i0 _ _ _ UN gz fu gq fG rfl I _ 0 [] rfl HO B (N ad) n c xs rfl (HR.alloc hB _) H1 lH I bB ?_;intro v6 w6 dw bU iT;have dJ:=(bJ (bQ w) _).trans (tu HO bU bB);rw[Nat.zero_add,wF] at dw;clear bU iT));go_ret;exact⟨_,rfl,dw,dJ⟩):R:=h
theorem az5(A:Option aK)(n c B:Nat)(xs:List ak)(w:Y)(hr:Reads w B 3 A n xs)(h1:∀u∈xs,u.oneCell'=Z)(hB:B<=w.heap.size)(hn:n<=1000):
  aF aa 235 #[O A n c] w (aaZ w 165 3 n xs):=by have qT:∀(w:Y) (a:Option aK) (n c n' c':Nat),(binOp .eql 88 (O a n c) (O J n' c')).run aa w= .ok (ax a.isNone) w:=λw a n c n' c'=>Lib.run_eql_slice_nil w _ _ a n c n' c' underlying88;have FN:=func235;have NT:=ntmps235;have UN:=underlying88;have HO:=G (aa0 w 165 3);obtain⟨i0,gz,fu,gq,fG⟩:=info_parts az4;exact clS
theorem az6:(aa.info? 78).map (λi=>(i.zero,i.size,i.bytes))=N (N (aD #[C D 0,C D 0,C D 0,C D 0]),4,32):=by kernel_rfl
theorem aey(A:Option aK)(n c B:Nat)(xs:List ak)(w:Y)(hr:Reads w B 4 A n xs)(h1:∀u∈xs,u.oneCell'=Z)(hB:B<=w.heap.size)(hn:n<=1000):
  aF aa 227 #[O A n c] w (aaZ w 78 4 n xs):=by have qT:∀(w:Y) (a:Option aK) (n c n' c':Nat),(binOp .eql 24 (O a n c) (O J n' c')).run aa w= .ok (ax a.isNone) w:=λw a n c n' c'=>Lib.run_eql_slice_nil w _ _ a n c n' c' underlying24;have FN:=func227;have NT:=ntmps227;have UN:=underlying24;have HO:=G (aa0 w 78 4);obtain⟨i0,gz,fu,gq,fG⟩:=info_parts az6;exact clS
theorem az7:(aa.info? 226).map (λi=>(i.zero,i.size,i.bytes))=N (N (aD #[C D 0,C D 0,C D 0]),3,24):=by kernel_rfl
theorem az8(A:Option aK)(n c B:Nat)(xs:List ak)(w:Y)(hr:Reads w B 3 A n xs)(h1:∀u∈xs,u.oneCell'=Z)(hB:B<=w.heap.size)(hn:n<=1000):
  aF aa 229 #[O A n c] w (aaZ w 226 3 n xs):=by have qT:∀(w:Y) (a:Option aK) (n c n' c':Nat),(binOp .eql 159 (O a n c) (O J n' c')).run aa w= .ok (ax a.isNone) w:=λw a n c n' c'=>Lib.run_eql_slice_nil w _ _ a n c n' c' underlying159;have FN:=func229;have NT:=ntmps229;have UN:=underlying159;have HO:=G (aa0 w 226 3);obtain⟨i0,gz,fu,gq,fG⟩:=info_parts az7;exact clS
theorem az9:(aa.info? 161).map (λi=>(i.zero,i.size,i.bytes))=N (N (aD #[au ⟨#[]⟩,au ⟨#[]⟩,O J 0 0,O J 0 0,X]),5,88):=by kernel_rfl
theorem aAa(A:Option aK)(n c B:Nat)(xs:List ak)(w:Y)(hr:Reads w B 5 A n xs)(h1:∀u∈xs,u.oneCell'=Z)(hB:B<=w.heap.size)(hn:n<=1000):
  aF aa 228 #[O A n c] w (aaZ w 161 5 n xs):=by have qT:∀(w:Y) (a:Option aK) (n c n' c':Nat),(binOp .eql 27 (O a n c) (O J n' c')).run aa w= .ok (ax a.isNone) w:=λw a n c n' c'=>Lib.run_eql_slice_nil w _ _ a n c n' c' underlying27;have FN:=func228;have NT:=ntmps228;have UN:=underlying27;have HO:=G (aa0 w 161 5);obtain⟨i0,gz,fu,gq,fG⟩:=info_parts az9;exact clS
theorem amH{T:Type}[Inhabited T](row:T->List ak)(iF:∀t,(row t).length=S):∀(ts:List T) (k j:Nat) (v:ak) (t':T),k<ts.length->j<S->row t'=(row (ts.getD k ay)).set j v->(ts.flatMap row).set (k*S+j) v=(ts.set k t').flatMap row:=by
 intro ts;induction ts with
 |nil=>intro k j v t' h;simp at h
 |cons t r ih=>
  intro k j v t' hk hj he;cases k with
  |zero=>simp only[Ih] at he;rw[oh,Hq,Hq,he,Nat.zero_mul,Nat.zero_add];rw[List.set_append_left _ _ (by rw[iF];exact hj)]
  |succ k=>simp only[List.getD_cons_succ] at he;rw[oP,Hq,Hq,<-ih k j v t' MR hj he];rw[List.set_append_right _ _ abG,iF,show(k+1)*S+j-S=k*S+j by rw[Nat.add_mul];omega]
theorem XW{T:Type}[Inhabited T](row:T->List ak)(iF:∀t,(row t).length=S){ts:List T}{t':T}(h:w.ownsRow base e S (O g n c) n (ts.flatMap row))(hl:ts.length=n)(hk:k<n)(hj:j<S)(he:row t'=(row (ts.getD k ay)).set j v):
  (w.setCell ⟨g,k*S+j,J⟩ v).ownsRow base e S (O g n c) n ((ts.set k t').flatMap row):=by
 obtain⟨h0,h⟩:=h;refine⟨by rw[<-amH row iF ts k j v t' I hj he,U0];exact h0,.inr ?_⟩;rcases h with⟨h1,_⟩|⟨g',cap,cur,hv,hb,hc,h1,h1',h2,h3⟩;·cases h1
 injection hv with e1 e2 e3;injection e1 with e1;injection e1 with e1 e4;subst e1 e3;refine⟨g,c,cur.setIfInBounds (k*S+j) v,rfl,hb,ai.bL hc _ v,h1,h1',by rw[Array.size_setIfInBounds];exact h2,?_⟩;rw[Array.toList_setIfInBounds,<-amH row iF ts k j v t' I hj he,<-h3,List.take_set]
theorem Jh(h:w.ownsRow base e S (O g n c) n xs):base<=g/\g<w.heap.size/\∃cur,ai w g e cur/\cur.toList.take (n*S)=xs:=by
 obtain⟨_,h⟩:=h;rcases h with⟨h1,_⟩|⟨g',cap,cur,hv,hb,hc,_,_,_,h3⟩;·cases h1
 injection hv with e1 e2 e3;injection e1 with e1;injection e1 with e1 e4;subst e1;exact⟨hb,ai.lt hc,cur,hc,h3⟩
theorem Um(h:w.ownsRow base e S v n xs)(hn:0<n):∃(g:Nat) (c:Nat),v=O g n c:=by
 obtain⟨_,h⟩:=h;rcases h with⟨_,h1⟩|⟨g',cap,cur,hv,_⟩;·omega
 exact⟨_,_,hv⟩
theorem Q0{T:Type}[Inhabited T](row:T->List ak)(iF:∀t,(row t).length=S){ts:List T}(h:w.ownsRow base e S (O g n c) n (ts.flatMap row))(hl:ts.length=n)(hk:k<n)(hj:j<S)(hu:(row (ts.getD k ay))[j]?=N u):w.cell? ⟨g,k*S+j,J⟩=N u:=by
 obtain⟨_,_,cur,hb,h3⟩:=Jh h;rw[hb.cell];have h1:=Gl row iF (ts:=ts) (k:=k) (j:=j) I hj;rw[hu,<-h3,List.getElem?_take] at h1;split at h1;·rw[<-OH];exact h1
 cases h1
theorem aez(l:List bE):∀u∈jS l,u.oneCell'=Z:=by intro u hu;unfold jS at hu;obtain⟨x,_,hx⟩:=List.mem_flatMap.1 hu;unfold IE at hx;simp only[jZ,nJ,or_false] at hx;rcases hx with rfl|rfl|rfl|rfl<;>rfl
theorem amI(h:R:=by simp only[jZ,nJ,or_false] at hx;rcases hx with rfl|rfl|rfl<;>rfl):R:=h
theorem aAb(l:List ib):∀u∈Gm l,u.oneCell'=Z:=by intro u hu;unfold Gm at hu;obtain⟨x,_,hx⟩:=List.mem_flatMap.1 hu;unfold IG at hx;exact amI
theorem aAc(l:List pI):∀u∈Oa l,u.oneCell'=Z:=by intro u hu;unfold Oa at hu;obtain⟨x,_,hx⟩:=List.mem_flatMap.1 hu;unfold Cc at hx;simp only[jZ,nJ,or_false] at hx;rcases hx with rfl|rfl|rfl|rfl|rfl<;>rfl
structure EP(W:Y)(b:Nat)(x:pI):Prop where
 ch:W.ownsRow b 78 4 (O x.Ac x.nc x.cc) x.nc (jS x.jI)
 li:W.ownsRow b 226 3 (O x.Al x.nl x.cl) x.nl (Gm x.links)
 ca:∀a∈x.jI,Dh a
 la:∀a∈x.links,Od a
 nc:x.nc<=1000
 nl:x.nl<=1000
 nm:x.name.length<=9223372036854775807
 cu:x.cur.length<=9223372036854775807
theorem XX(h:w.ownsRow base e S (O A n c) n xs):n<=c:=by
 obtain⟨_,h⟩:=h;rcases h with⟨_,h2⟩|⟨g',cap,cur,hv,_,_,h1,_⟩;·omega
 injection hv with _ _ e3;omega
theorem EP.below{x:pI}(h:EP W b x)(hb:aj W W W'):EP W' b x:=⟨own_below h.ch hb,own_below h.li hb,h.ca,h.la,h.nc,h.nl,h.nm,h.cu⟩
theorem ve(W:Y)(g i:Nat)(v:ak):W.grownBy (W.setCell ⟨g,i,J⟩ v) (N g):=⟨rfl,rfl,rfl,aG,λk _ hk=>jm W ⟨g,i,J⟩ v k (λe=>hk MZ)⟩
theorem EP.bL{i:Nat}{x:pI}{cs:Array ak}(h:EP W b x)(hg:ai W g 161 cs)(v:ak):EP (W.setCell ⟨g,i,J⟩ v) b x:=⟨h.ch.kept (ve W g i v) (.inr (iQ h.ch hg aL)),h.li.kept (ve W g i v) (.inr (iQ h.li hg aL)),h.ca,h.la,h.nc,h.nl,h.nm,h.cu⟩
theorem EP.mH{x:pI}(h:EP W b x):Ce W W x:=⟨⟨Reads.uA h.ch,by have:=h.nc;omega,XX h.ch,h.ca⟩,⟨Reads.uA h.li,by have:=h.nl;omega,XX h.li,h.la⟩,h.nm,h.cu⟩
theorem Kv(h:w.ownsRow base e S v n xs)(hb:base'<=base):w.ownsRow base' e S v n xs:=by
 obtain⟨h0,h⟩:=h;refine⟨h0,?_⟩;rcases h with h1|⟨g',cap,cur,hv,hb',hc⟩;·exact .inl h1
 exact .inr ⟨g',cap,cur,hv,I,hc⟩
def Un:Array ak:=#[au ⟨#[]⟩,C D 0,C D 0,C D 0,O J 0 0,C D 0,C D 0,C D 0,C D 0,C D 0,C D 0,C D 0,C D 0,C D 0,C D 0,C D 0,C D 0,C D 0,C D 0,C D 0,O J 0 0]
theorem aAd(g:gm)(B:Nat)(w:Y)(hg:pU w B g)(hB:B<=w.heap.size)(aY:g.ne<=1000):
  aF aa 172 #[aD (dx g)] w λe w'=>∃g',e=aI (aD (dx g'))/\pU w' w' g'/\aj w w w':=by
 have HG:=G hg;clear hg;obtain⟨_,_,_,_,j4,_,j5⟩:=Jg g;have bV:=Cw g;obtain⟨o1,GM⟩:∃o:Obj,o=ag (dx g) 29:=⟨_,rfl⟩;obtain⟨o2,nT⟩:∃o:Obj,o=ag Un 29:=⟨_,rfl⟩;have aP:=G (bJ (bJ (bQ w) o1) o2);have dC:af (ai ((w.alloc o1).alloc o2) w 29 (dx g)):=by show ai _ _ _ _;rw[GM];exact(ai.new w _ _).alloc _
 have Cr:af (ai ((w.alloc o1).alloc o2) (w.heap.size+1) 29 Un):=by show ai _ _ _ _;have:=ai.new (w.alloc o1) 29 Un;rw[aW] at this;rw[nT];exact this
 rw[GM,nT] at aP dC Cr;unfold Un at aP dC Cr;clear GM nT;obtain⟨GC,Q4⟩:∃a,a=dx g:=⟨_,rfl⟩;rw[<-Q4] at aP dC Cr j4 j5 bV |-;have qK:=G Q4;clear Q4;have y4:=(dC.cell 4).trans j4;have y20:=(dC.cell 20).trans j5;go_enter func172,ntmps172;go_wp2_with fail;generalize pJ (pJ _ _) _=W0 at*;have lY:w.heap.size+1<W0.heap.size:=Cr.lt;refine(aey g.Ac g.nc g.cc B _ _ (HG.low hB aP).mH.ch.rd (aez _) I HG.nc).mono ?_;rintro e w1 ⟨v,rfl,aV,aB⟩;obtain⟨A1,c1,rfl⟩:=eO aV;have aM:=G (XK (bS aB aP) (p:=⟨w,4,J⟩) (aC _) (O A1 g.nc c1));have bO:=G ((dC.below aB I).bL 4 (O A1 g.nc c1));have HZ1:=G ((Cr.below aB lY).far (p:=⟨w,4,J⟩) (show w.heap.size+1≠w.heap.size by omega) (O A1 g.nc c1));have ni:=G (aV.kept (ve w1 w 4 (O A1 g.nc c1)) (.inr (iQ aV (dC.below aB I) aL)));have z4:=((dC.below aB I).cell 4).trans j4;have iB:=(dC.below aB I).frozen;have nX:(w1.setCell ⟨w,4,J⟩ (O A1 g.nc c1)).cell? ⟨w,20,J⟩=N (O g.Ae g.ne g.ce):=by rw[bO.E.cell,Array.getElem?_setIfInBounds_ne I];exact j5
 have z20:=((dC.below aB I).cell 20).trans j5;have ed:=aB.size;clear aB aV y4 y20 dC Cr;go_wp2_with fail;have ni:af ((w1.setCell ⟨w,4,J⟩ (O A1 g.nc c1)).ownsRow w 78 4 (O A1 g.nc c1) g.nc (jS g.jI)):=Kv ni I;have hsW:(w1.setCell ⟨w,4,J⟩ (O A1 g.nc c1)).heap.size=w1.heap.size:=aG;clear iB z4 z20;generalize Bp w1 _ _=W1 at*;refine(aAa g.Ae g.ne g.ce B _ _ (HG.low hB aM).mH.en (aAc _) I aY).mono ?_;rintro e w2 ⟨v,rfl,aV,aJ⟩;obtain⟨A2,c2,rfl⟩:=eO aV;have hX2:=bO.below aJ I;have aS:=G (XK (bS aJ aM) (p:=⟨w,20,J⟩) (aC _) (O A2 g.ne c2));have eu:=G (hX2.bL 20 (O A2 g.ne c2));have HZ2:=G ((HZ1.below aJ I).far (p:=⟨w,20,J⟩) (show w.heap.size+1≠w.heap.size by omega) (O A2 g.ne c2));have iW:=G ((own_below ni aJ).kept (ve w2 w 20 (O A2 g.ne c2)) (.inr (iQ (own_below ni aJ) hX2 aL)));have q9:af ((w2.setCell ⟨w,20,J⟩ (O A2 g.ne c2)).ownsRow w 161 5 (O A2 g.ne c2) g.ne (Oa g.dS)):=Kv (aV.kept (ve w2 w 20 (O A2 g.ne c2)) (.inr (iQ aV hX2 aL))) I;have iB:=hX2.frozen;have z20:w2.cell? ⟨w,20,J⟩=N (O g.Ae g.ne g.ce):=by rw[hX2.cell,Array.getElem?_setIfInBounds_ne I];exact j5
 obtain⟨g2,Cf⟩:∃g2:gm,g2= {g with Ac:=A1,cc:=c1,Ae:=A2,ce:=c2}:=⟨_,rfl⟩;have HGG:af ((GC.setIfInBounds 4 (O A1 g.nc c1)).setIfInBounds 20 (O A2 g.ne c2)=dx g2):=by show _=_;rw[qK.E,Cf];rfl
 rw[HGG.E] at eu;have uz:=G Cf;have amK:(dx g2)[20]?=N (O A2 g.ne c2):=by rw[Cf];rfl
 have hsz2:(dx g2).size=21:=rfl;have hone:(dx g2).all (·.oneCell')=Z:=by simp[dx,Value.oneCell']
 have xI:af (∀es,dx {g2 with dS:=es}=dx g2):=λes=>rfl;clear aJ aV bO HZ1 ni hX2 nX Cf;generalize dx g2=G2 at*;have y20:=(eu.cell 20).trans amK;go_wp2_with fail;have aDE:(w2.setCell ⟨w,20,J⟩ (O A2 g.ne c2)).heap.size=w2.heap.size:=aG;clear iB z20 aP aM;generalize Bp w2 _ _=W2 at*;have bH:g.dS.length=g.ne:=Oc HG.mH.en;go_loopw [16] (λi wr=>∃(k:Nat) (es:List pI),k<=g.ne/\i=C D k/\es.length=g.ne/\(∀j,j<k->EP wr w (es.getD j ay))/\(∀j,k<=j->j<g.ne->es.getD j ay=g.dS.getD j ay)/\wr.ownsRow w 161 5 (O A2 g.ne c2) g.ne (es.flatMap Cc)/\wr.ownsRow w 78 4 (O A1 g.nc c1) g.nc (jS g.jI)/\aj w w wr/\ai wr w 29 G2/\ai wr (w.heap.size+1) 29 Un) (λi _=>g.ne-(intOf i).toNat);case atStart=>exact⟨0,g.dS,I,rfl,bH,λj h=>absurd h I,λj _ _=>rfl,q9,iW,aS,eu,HZ2⟩
 obtain⟨k,es,hk,rfl,yF,aV,CK,iF,hch,aH,hx,hz⟩:=hrel;obtain⟨wo,rfl⟩:=dz wr;have HX:=G hx;have HZ:=G hz;have HR:=G iF;have HC:=G hch;have HN:=G aV;have HS:=G CK;have HB:=G aH;have hzl:=hz.lt;clear eu HZ2 iW q9 aS y20 hx hz iF hch aV CK;by_cases aO:k<g.ne;case neg=>
  have ES:wo.grownBy (wo.setRow (w.heap.size+1) G2) (N (w.heap.size+1)):=⟨rfl,rfl,rfl,abA,λq _ hq=>setRow_other wo _ q G2 (λe=>hq MZ)⟩;have hrow2:(wo.setRow (w.heap.size+1) G2).heap[w.heap.size+1]?=N (ag G2 29 (0,0)):=setRow_heap wo _ _ G2 _ _ HZ;have jy:=G (HR.kept ES (.inr (iQ HR HZ aL)));have zO:=G (HC.kept ES (.inr (iQ HC HZ aL)));have Ui:af (∀j,j<k->EP (wo.setRow (w.heap.size+1) G2) w (es.getD j ay)):=λj hj=>⟨(HN j hj).ch.kept ES (.inr (iQ (HN j hj).ch HZ aL)),(HN j hj).li.kept ES (.inr (iQ (HN j hj).li HZ aL)),(HN j hj).ca,(HN j hj).la,(HN j hj).nc,(HN j hj).nl,(HN j hj).nm,(HN j hj).cu⟩;have aS:=G (HB.grown ES HB.size (λq hq=>by cases hq;omega));go_wp2_with(first|(refine vO iN _ rfl _ rfl _ hsz2 HX ?_)|(refine wpList_store_row rfl 29 _ _ rfl (w.heap.size+1) G2 rfl rfl 29 Un HZ (by rw[JA,hsz2]) (by rw[hsz2];rfl) hone ?_));generalize World.setRow wo _ _=wz at*;refine eX (v:=aD G2) (results_cell_row results172 _ wz (w.heap.size+1) 29 G2 (0,0) _ rfl hrow2 underlying29 rfl (by rw[JA,hsz2])) rfl ⟨{g2 with dS:=es},by rw[xI.E],?_,aS⟩;have CW:∀x∈es,EP wz w x:=λx hx=>by obtain⟨j,hj,rfl⟩:=List.mem_iff_getElem.1 hx;have:=Ui j I;rwa [show es.getD j ay=es[j] by simp[dO,hj]] at this
  have hgg:=HG;rw[uz.E];exact⟨⟨⟨Reads.uA zO,by have:=hgg.nc;simp only[];omega,XX zO,hgg.mH.ch.ok⟩,Reads.uA jy,dY,XX jy,hgg.mH.ro,λx hx=>(CW x hx).mH,hgg.mH.cu⟩,hgg.nc,λx hx=>(CW x hx).nc,λx hx=>(CW x hx).nl⟩
 have k3:decide ((k:Int)<(g.ne:Int))=Z:=jO;have b15:(k:Int)<(g.ne:Int):=I;obtain⟨ge,ce,he⟩:=Um HR I;injection he with e1 e2 e3;subst e1;subst e3;have nX:=(HX.cell 20).trans amK;go_upto_region 7 with fail;have XY:=HS k (aC _) aO;have dA:k<es.length:=I;have dK:g.dS.getD k ay∈g.dS:=by have:k<g.dS.length:=I;simp[dO,this]
 have ER:af (Ce wo B (g.dS.getD k ay)/\(g.dS.getD k ay).nc<=1000/\(g.dS.getD k ay).nl<=1000):=⟨(HG.low hB aH).mH.ok _ dK,HG.en _ dK,HG.el _ dK⟩;have x2:wo.cell? ⟨ge,k*5+2,J⟩=N (O (g.dS.getD k ay).Ac (g.dS.getD k ay).nc (g.dS.getD k ay).cc):=Q0 Cc Ob HR yF aO I (by rw[XY];rfl);have x3:wo.cell? ⟨ge,k*5+3,J⟩=N (O (g.dS.getD k ay).Al (g.dS.getD k ay).nl (g.dS.getD k ay).cl):=Q0 Cc Ob HR yF aO I (by rw[XY];rfl);have DR:ge<wo.heap.size:=(Jh HR).2.1;clear nX dK;obtain⟨jV,hX⟩:∃jV,jV=g.dS.getD k ay:=⟨_,rfl⟩;rw[<-hX] at XY ER x2 x3;clear hX;have HXe:=G XY;clear XY;refine iA (S:=λ_=>True) dh trivial (λ_=>?_);refine aA 0 ?_;refine aA 1 ?_;refine aA 2 ?_;refine aA 3 ?_;refine aA 4 ?_;refine aA 7 ?_;refine aA 8 ?_;refine aA 9 ?_;refine uF 5 10 (λK hK=>?_) (λK hK=>?_);focus
  go_simp;refine bF hK trivial (λ_=>?_);clear hK K;refine uF 6 10 (λK hK=>?_) (λK hK=>?_);focus
   go_simp;refine(aey jV.Ac jV.nc jV.cc B _ wo.drew ER.1.ch.rd.drew (aez _) (ja hB aH.size) ER.2.1).mono ?_;rintro e w1 ⟨v,rfl,hown1,aB⟩;obtain⟨A5,c5,rfl⟩:=eO hown1;have rX:af (aj wo wo w1):=bS aB (kD (bQ wo));have xX:=G hown1;have x3:=(rX.cell (p:=⟨ge,k*5+3,J⟩) DR).trans x3;have x2:=(rX.cell (p:=⟨ge,k*5+2,J⟩) DR).trans x2;clear aB hown1;go_simp;refine bF hK trivial (λ_=>?_);clear hK K;refine bK 10 (λK hK=>?_);go_simp;refine bF hK trivial (λ_=>?_);clear hK K
  rotate_left;focus
   go_simp;refine bF hK trivial (λ_=>?_);clear hK K;refine bK 6 (λK hK=>?_);go_simp;refine(aey jV.Ac jV.nc jV.cc B _ wo.drew ER.1.ch.rd.drew (aez _) (ja hB aH.size) ER.2.1).mono ?_;rintro e w1 ⟨v,rfl,hown1,aB⟩;obtain⟨A5,c5,rfl⟩:=eO hown1;have rX:af (aj wo wo w1):=bS aB (kD (bQ wo));have xX:=G hown1;have x3:=(rX.cell (p:=⟨ge,k*5+3,J⟩) DR).trans x3;have x2:=(rX.cell (p:=⟨ge,k*5+2,J⟩) DR).trans x2;clear aB hown1;go_simp;refine bF hK trivial (λ_=>?_);clear hK K
 rotate_left 2;focus
  go_simp;refine bF hK trivial (λ_=>?_);clear hK K;refine bK 5 (λK hK=>?_);go_simp;refine bF hK trivial (λ_=>?_);clear hK K;refine bK 6 (λK hK=>?_);go_simp;refine(aey jV.Ac jV.nc jV.cc B _ wo.drew ER.1.ch.rd.drew (aez _) (ja hB aH.size) ER.2.1).mono ?_;rintro e w1 ⟨v,rfl,hown1,aB⟩;obtain⟨A5,c5,rfl⟩:=eO hown1;have rX:af (aj wo wo w1):=bS aB (kD (bQ wo));have xX:=G hown1;have x3:=(rX.cell (p:=⟨ge,k*5+3,J⟩) DR).trans x3;have x2:=(rX.cell (p:=⟨ge,k*5+2,J⟩) DR).trans x2;clear aB hown1;go_simp;refine bF hK trivial (λ_=>?_);clear hK K
 all_goals
  have fM:=rX.size;refine bK 11 (λK hK=>?_);go_simp;refine(az8 jV.Al jV.nl jV.cl B _ w1 (ER.1.li.rd.fV (ja hB aH.size) (aC _) rX) (aAb _) YZ ER.2.2).mono ?_;rintro e w3 ⟨v,rfl,El,aR⟩;obtain⟨A6,c6,rfl⟩:=eO El;have ry:=G (bS aR rX);have qN:=G El;have aAe:=G (own_below xX aR);clear aR El xX x2 x3;obtain⟨_,_,cur,XZ,_⟩:=Jh (own_below HR ry);have y2:=XZ.frozen;have hR3:=own_below HR ry;have x2:w3.cell? ⟨ge,k*5+2,J⟩=N (O jV.Ac jV.nc jV.cc):=Q0 Cc Ob hR3 yF aO I (by rw[HXe.E];rfl);have x3:w3.cell? ⟨ge,k*5+3,J⟩=N (O jV.Al jV.nl jV.cl):=Q0 Cc Ob hR3 yF aO I (by rw[HXe.E];rfl);have vE:=G hR3;have Ch:=G XZ;clear XZ hR3;go_simp;refine bF hK trivial (λ_=>?_);clear hK K;refine aA 12 ?_;refine aA 13 ?_;refine bK 14 (λK hK=>?_);go_simp;refine bF hK trivial (λ_=>?_);clear hK K;refine aA 15 ?_;refine aA 16 ?_;refine bK 17 (λK hK=>?_);go_simp;refine bF hK trivial (λ_=>?_);clear hK K;refine gI ?_;obtain⟨V5,hV5⟩:∃V,V=O A5 jV.nc c5:=⟨_,rfl⟩;obtain⟨V6,hV6⟩:∃V,V=O A6 jV.nl c6:=⟨_,rfl⟩;have hb:=(Jh vE).1;have e1:=XW Cc Ob (j:=2) (v:=V5) (t':= {jV with Ac:=A5,cc:=c5}) vE yF aO I (by rw[HXe.E,hV5];rfl);have e2:=XW Cc Ob (k:=k) (j:=3) (v:=V6) (t':= {jV with Ac:=A5,cc:=c5,Al:=A6,cl:=c6}) e1 (by rw[U0];exact yF) aO I (by rw[show(es.set k {jV with Ac:=A5,cc:=c5}).getD k ay= {jV with Ac:=A5,cc:=c5} by simp[dO,dA],hV6];rfl);have wQ:=Ch.bL (k*5+2) V5;have hX3:=HX.below ry HX.lt;have hZ3:=HZ.below ry HZ.lt;have hgx:=Ch.OZ hX3 aL;have hgz:=Ch.OZ hZ3 aL;have fX:=(hX3.far (p:=⟨ge,k*5+2,J⟩) (EO hgx) V5).far (p:=⟨ge,k*5+3,J⟩) (EO hgx) V6;have fZ:=(hZ3.far (p:=⟨ge,k*5+2,J⟩) (EO hgz) V5).far (p:=⟨ge,k*5+3,J⟩) (EO hgz) V6;have fB:=XK (XK (bS ry HB) (p:=⟨ge,k*5+2,J⟩) hb V5) (p:=⟨ge,k*5+3,J⟩) hb V6;have X8:=own_below HC ry;have fC:=(X8.kept (ve w3 ge (k*5+2) V5) (.inr (iQ X8 Ch aL))).kept (ve _ ge (k*5+3) V6) (.inr (iQ (X8.kept (ve w3 ge (k*5+2) V5) (.inr (iQ X8 Ch aL))) wQ aL));have eP:=aH.size;have hE3:EP w3 w {jV with Ac:=A5,cc:=c5,Al:=A6,cl:=c6}:=⟨Kv aAe eP,Kv qN I,ER.1.ch.ok,ER.1.li.ok,ER.2.1,ER.2.2,ER.1.nm,ER.1.cu⟩;have fE:=(hE3.bL (i:=k*5+2) Ch V5).bL (i:=k*5+3) wQ V6;have fN:∀j,j<k->EP _ w (es.getD j ay):=λj hj=>(((HN j hj).below ry).bL (i:=k*5+2) Ch V5).bL (i:=k*5+3) wQ V6;have HF:=G (bI e2 (bI fX (bI fZ (bI fB (bI fC (bI fE fN))))));rw[<-hV5,<-hV6];clear e1 e2 fX fZ fB fC fE fN hE3 X8 hX3 hZ3 wQ x2 x3 y2 hV5 hV6;go_wp2_with fail;obtain⟨e2,fX,fZ,fB,fC,fE,fN⟩:=HF;go_roundw;case rel=>
   refine⟨k+1,(es.set k {jV with Ac:=A5,cc:=c5}).set k {jV with Ac:=A5,cc:=c5,Al:=A6,cl:=c6},I,bR,by rw[U0,U0];exact yF,λj hj=>?_,λj hj hj2=>?_,e2,fC,fB,fX,fZ⟩
   ·rcases jl j k with h|h;·have:=fN j h;rwa [show((es.set k {jV with Ac:=A5,cc:=c5}).set k {jV with Ac:=A5,cc:=c5,Al:=A6,cl:=c6}).getD j ay=es.getD j ay by simp[dO,List.getElem?_set,show k≠j by omega]]
    obtain rfl:j=k:=by omega
    rwa [show((es.set j {jV with Ac:=A5,cc:=c5}).set j {jV with Ac:=A5,cc:=c5,Al:=A6,cl:=c6}).getD j ay= {jV with Ac:=A5,cc:=c5,Al:=A6,cl:=c6} by simp[dO,dA]]
   rw[show((es.set k {jV with Ac:=A5,cc:=c5}).set k {jV with Ac:=A5,cc:=c5,Al:=A6,cl:=c6}).getD j ay=es.getD j ay by simp[dO,List.getElem?_set,show k≠j by omega]];exact HS j I hj2
  simp[intOf];omega
theorem aAf(l:List GV):∀u∈l.flatMap xY,u.oneCell'=Z:=by intro u hu;obtain⟨x,_,hx⟩:=List.mem_flatMap.1 hu;unfold xY at hx;exact amI
structure yZ(W:Y)(b:Nat)(x:gV):Prop where
 li:W.ownsRow b 165 3 (O x.A x.n x.c) x.n (x.ls.flatMap xY)
 le:x.n<=1000
 tx:x.text.length<=9223372036854775807
 id:fU x.id
 of:fU x.of
theorem yZ.below{x:gV}(h:yZ W b x)(hb:aj W W W'):yZ W' b x:=⟨own_below h.li hb,h.le,h.tx,h.id,h.of⟩
theorem yZ.kept{x:gV}{row:Option Nat}(h:yZ W b x)(hg:W.grownBy W' row)(hr:(O x.A x.n x.c).ownBlock=J\/(O x.A x.n x.c).ownBlock≠row):yZ W' b x:=⟨h.li.kept hg hr,h.le,h.tx,h.id,h.of⟩
theorem yZ.mH{x:gV}(h:yZ W b x):xm W W x:=⟨Reads.uA h.li,h.le,XX h.li,h.tx,h.id,h.of⟩
theorem yZ.less{b':Nat}{x:gV}(h:yZ W b x)(hb:b'<=b):yZ W b' x:=⟨Kv h.li hb,h.le,h.tx,h.id,h.of⟩
def zeroE:Array ak:=#[C D 0,C D 0,C D 0,C D 0,C D 0,au ⟨#[]⟩,O J 0 0]
theorem aAg(x:gV)(B:Nat)(w:Y)(hx:xm w B x)(hB:B<=w.heap.size):
  aF aa 175 #[aD (jJ x)] w λe w'=>∃x',e=aI (aD (jJ x'))/\yZ w' w x'/\aj w w w':=by
 have HX:=G hx;clear hx;obtain⟨_,_,_,_,_,_,i6⟩:=Ku x;have Bi:=XT x;obtain⟨EA,Uo⟩:∃a,a=jJ x:=⟨_,rfl⟩;have aP:=G (bJ (bJ (bQ w) (ag EA 90)) (ag zeroE 90));have Bj:=G ((ai.new w 90 EA).alloc (ag zeroE 90));have Cr:=G (ai.new (w.alloc (ag EA 90)) 90 zeroE);rw[aW] at Cr;rw[<-Uo] at i6 Bi |-;have Ul:=G Uo;clear Uo;have x6:=(Bj.cell 6).trans i6;unfold zeroE at aP Bj Cr x6;go_enter func175,ntmps175;go_wp2_with fail;have lY:w.heap.size+1<(pJ (pJ w _) _).heap.size:=Cr.lt;generalize pJ (pJ _ _) _=W0 at*;refine(az5 x.A x.n x.c B _ _ (HX.low hB (aC _) aP).rd (aAf _) I HX.le).mono ?_;rintro e w1 ⟨v,rfl,aV,aB⟩;obtain⟨A1,c1,rfl⟩:=eO aV;have hE1:=Bj.below aB I;have aM:=G (XK (bS aB aP) (p:=⟨w,6,J⟩) (aC _) (O A1 x.n c1));have kK:=G (hE1.bL 6 (O A1 x.n c1));have HZ1:=G ((Cr.below aB I).far (p:=⟨w,6,J⟩) (show w.heap.size+1≠w.heap.size by omega) (O A1 x.n c1));have ni:af ((w1.setCell ⟨w,6,J⟩ (O A1 x.n c1)).ownsRow w 165 3 (O A1 x.n c1) x.n (x.ls.flatMap xY)):=Kv (aV.kept (ve w1 w 6 (O A1 x.n c1)) (.inr (iQ aV hE1 aL))) I;have xI:af (EA.setIfInBounds 6 (O A1 x.n c1)=jJ {x with A:=A1,c:=c1}):=by show _=_;rw[Ul.E];rfl
 have y6:=(hE1.cell 6).trans i6;have iB:=hE1.frozen;have hone:(jJ {x with A:=A1,c:=c1}).all (·.oneCell')=Z:=by simp[jJ,Value.oneCell']
 have fG:(jJ {x with A:=A1,c:=c1}).size=7:=rfl;rw[xI.E] at kK;have La:af (∃x',(jJ {x with A:=A1,c:=c1})=jJ x'/\x'.A=A1/\x'.c=c1/\x'.n=x.n/\x'.ls=x.ls/\x'.text=x.text/\x'.id=x.id/\x'.of=x.of):=⟨{x with A:=A1,c:=c1},rfl,rfl,rfl,rfl,rfl,rfl,rfl,rfl⟩;generalize jJ {x with A:=A1,c:=c1}=E2 at*;have hz7:zeroE.size=7:=rfl;have JS:(#[C D 0,C D 0,C D 0,C D 0,C D 0,au ⟨#[]⟩,O J 0 0]:Array ak)=zeroE:=rfl;rw[JS] at HZ1;clear aB aV Bj Cr x6;have ES:(w1.setCell ⟨w,6,J⟩ (O A1 x.n c1)).grownBy ((w1.setCell ⟨w,6,J⟩ (O A1 x.n c1)).setRow (w.heap.size+1) E2) (N (w.heap.size+1)):=⟨rfl,rfl,rfl,abA,λq _ hq=>setRow_other _ _ q E2 (λe=>hq MZ)⟩;have hrow2:((w1.setCell ⟨w,6,J⟩ (O A1 x.n c1)).setRow (w.heap.size+1) E2).heap[w.heap.size+1]?=N (ag E2 90 (0,0)):=setRow_heap _ _ _ E2 _ _ HZ1;have iW:=G (ni.kept ES (.inr (iQ ni HZ1 aL)));have aS:=G (aM.grown ES aM.size (λq hq=>by cases hq;omega));go_wp2_with(first|(refine Uk iN _ rfl _ rfl _ fG kK ?_)|(refine wpList_store_row rfl 90 _ _ rfl (w.heap.size+1) E2 rfl rfl 90 zeroE HZ1 (by rw[XV,fG]) (by rw[fG];rfl) hone ?_));generalize World.setRow _ _ _=wz at*;obtain⟨x',hx',e1,e2,e3,e4,e5,e6,e7⟩:=La;refine eX (v:=aD E2) (results_cell_row results175 _ wz (w.heap.size+1) 90 E2 (0,0) _ rfl hrow2 underlying90 rfl (by rw[XV,fG])) rfl ⟨x',by rw[hx'],⟨by rw[e1,e2,e3,e4];exact iW,by rw[e3];exact HX.le,by rw[e5];exact HX.tx,by rw[e6];exact HX.id,by rw[e7];exact HX.of⟩,aS⟩
def Dy(g:gm)(v:ak)(mi mr:Nat):Array ak:=#[g.cur,g.year,g.month,g.Cb,O g.Ac g.nc g.cc,g.dL.c0,g.dL.c1,g.dL.c2,g.dL.c3,g.dL.c4,g.dL.c5,g.dL.c6,g.dL.c7,g.dL.c8,g.dL.c9,g.dL.c10,g.dL.c11,g.dL.c12,g.dL.c13,g.dL.c14,O g.Ae g.ne g.ce,v,.map (N mi),.map (N mr)]
theorem amL(g:gm)(v:ak)(mi mr:Nat):(Dy g v mi mr)[21]?=N v/\(Dy g v mi mr)[22]?=N (.map (N mi))/\(Dy g v mi mr)[23]?=N (.map (N mr)):=⟨rfl,rfl,rfl⟩
theorem amM(g:gm)(v:ak)(mi mr:Nat)(j:Nat)(u:ak)(h:(dx g).toList[j]?=N u):(Dy g v mi mr)[j]?=N u:=by have e:(Dy g v mi mr).toList=(dx g).toList++ [v,.map (N mi),.map (N mr)]:=rfl;rw[<-OH,e,List.getElem?_append_left (List.getElem?_eq_some_iff.1 h).1];exact h
theorem aAh(g:gm)(v v':ak)(mi mr:Nat):(Dy g v mi mr).setIfInBounds 21 v'=Dy g v' mi mr:=rfl
structure Cx(W:Y)(bf:Nat)(g:gm)(jb:Nat)(v:ak)(mi mr:Nat)(es:List gV):Prop where
 blk:ai W jb 298 (Dy g v mi mr)
 jD:bf<=jb
 iD:bf<=mi
 rD:bf<=mr
 ir:mi≠mr
 gr:pU W bf g
 DW:bf<=W.heap.size
 en:W.ownsRow bf 90 7 v es.length (es.flatMap qp)
 ok:∀x∈es,yZ W bf x
 ix:gG Kt (λu=>∃i:Nat,u=C D i/\i<es.length) W mi
 rv:gG Kt (λu=>∃i:Int,u=C D i) W mr
def aeA(W:Y)(bf:Nat)(g:gm)(jb m:Nat):Prop:=∃v mi mr es,Cx W bf g jb v mi mr es/\es.length<=m
theorem aAi(g:gm)(B:Nat)(w:Y)(hg:pU w B g)(hB:B<=w.heap.size)(aY:g.ne<=1000):
  aF aa 107 #[aD (dx g)] w λe w'=>((∃n:Int,e=aI (bz #[aQ J,C D n])/\n≠0)\/∃bf g' jb,e=aI (bz #[aQ (N ⟨jb,0,J⟩),C D 0])/\w.heap.size<=bf/\aeA w' bf g' jb 0)/\aj w.heap.size w w':=by
 have HV:af (∀W:Y,aj w.heap.size w W->aF aa 171 #[aD (dx g)] W (RB W)):=λW hW=>aex g B W (hg.low hB hW) lI;have HCp:af (∀W:Y,aj w.heap.size w W->_):=λW hW=>aAd g B W (hg.low hB hW) lI aY;have bV:=Cw g;generalize dx g=GC at*;have HX:=G (ai.new w 29 GC);have aT:=bJ (bQ w) (ag GC 29);have zx:= @run_makeMap aa;clear hg;go_enter func107,ntmps107;go_wp2_with(refine vO iN _ rfl _ rfl _ bV HX.E ?_);refine(HV.E _ aT).mono ?_;rintro e w1 ⟨⟨b,rfl⟩,aB⟩;have hb:=bS aB aT;have bO:=G (HX.E.below aB aG);clear aT aB HX;cases b;·go_wp2_with fail;go_ret2;exact⟨.inl ⟨_,rfl,aL⟩,hb⟩
 go_wp2_with(refine vO iN _ rfl _ rfl _ bV bO.E ?_);refine(HCp.E _ hb).mono ?_;rintro e w2 ⟨g',rfl,Gh,aJ⟩;have aS:=G (bS aJ hb);have uz:=G Gh;have fw:=aS.E.size;clear hb aJ bO Gh;have JW:af (Cx (((w2.alloc (.map #[] 0)).alloc (.map #[] 0)).alloc (ag (Dy g' (O J 0 0) w2.heap.size (w2.heap.size+1)) 298)) w2.heap.size g' (w2.heap.size+1+1) (O J 0 0) w2.heap.size (w2.heap.size+1) []):= {
  blk:=by
   have:=ai.new ((w2.alloc (.map #[] 0)).alloc (.map #[] 0)) 298 (Dy g' (O J 0 0) w2.heap.size (w2.heap.size+1))
   rw[aW,aW] at this
   exact this
  jD:=by omega
  iD:=aC _
  rD:=by omega
  ir:=by omega
  gr:=uz.E.low (aC _) (bJ (bJ (bJ (bQ w2) _) _) _)
  DW:=by simp only[aW];omega
  en:=ng _ _ _ _
  ok:=by simp
  ix:=((gG.made w2).alloc _).alloc _
  rv:=by
   have:gG Kt (λu=>∃i:Int,u=C D i) ((w2.alloc (.map #[] 0)).alloc (.map #[] 0)) (w2.alloc (.map #[] 0)).heap.size:=gG.made _
   rw[aW] at this
   exact this.alloc _}
 have Dz:=G (bJ (bJ (bJ aS.E (.map #[] 0)) (.map #[] 0)) (ag (Dy g' (O J 0 0) w2.heap.size (w2.heap.size+1)) 298));unfold dx;go_wp2_with fail;go_ret2;exact⟨.inr ⟨w2.heap.size,g',w2.heap.size+1+1,rfl,fw,_,_,_,[],JW.E,aC _⟩,Dz.E⟩
theorem aAj(args:Array ak)(w:Y):(callFunc 283 args).run aa w= .ok (.enter 283 args) w:=by simp[go_sem]
theorem aAk(a b c d e f:Int)(w:Y):aF aa 283 #[aD #[a,b,c],aD #[d,e,f]] w (RB w):=by
 cases h1:a==d;all_goals cases h2:c==f
 all_goals
  go_enter func283,ntmps283;go_wp2_with fail
 all_goals(go_ret;exact RB.mk _)
theorem aAl(xs ys:List GV)(A A':Option aK)(n c n' c' B:Nat)(w:Y)(hr:Reads w B 3 A n (xs.flatMap xY))(tK:Reads w B 3 A' n' (ys.flatMap xY))(hB:B<=w.heap.size)(hn:n<=1000)(Ip:n'<=1000):
  aF aa 282 #[O A n c,O A' n' c',.func (.func 283) #[] #[]] w (RB w):=by
 have HR:=G hr;have IX:=G tK;have oo:=aAj;clear hr tK;by_cases heq:n=n';case neg=>
  have k1:((n:Int)!=(n':Int))=Z:=by rw[bne_iff_ne];omega
  go_enter func282,ntmps282;go_wp2_with fail;all_goals first|(go_ret;exact RB.mk _)|omega
 subst heq;go_enter func282,ntmps282;go_wp2_with fail;go_loopw [17] (λi wr=>∃k:Nat,k<=n/\i=C D k/\aj w w wr) (λi _=>n-(intOf i).toNat);case atStart=>exact⟨0,I,rfl,bQ w⟩
 obtain⟨k,hk,rfl,aH⟩:=hrel;obtain⟨wo,rfl⟩:=dz wr;by_cases aO:k<n
 ·have b3:(k:Int)<(n:Int):=by omega
  have eP:=aH.size;obtain⟨ad,mK,_,c0,c1,c2⟩:=(HR.fV hB (aC _) aH).QZ aO;obtain⟨ae,hae,jM,d0,d1,d2⟩:=(IX.fV hB (aC _) aH).QZ aO;subst mK;subst hae;generalize xs.getD k ay=x at*;generalize ys.getD k ay=y at*;obtain⟨x0,x1,x2⟩:=x;obtain⟨y0,y1,y2⟩:=y;simp only[] at c0 c1 c2 d0 d1 d2;have dJ:=bJ (bJ aH (ag #[x0,x1,x2] 165)) (ag #[y0,y1,y2] 165);have qM:(ae.add (k*3)).block<wo.heap.size:=E9;go_wp2_with fail;refine(aAk _ _ _ _ _ _ _).mono ?_;rintro e w1 ⟨⟨b,rfl⟩,aB⟩;have hb:=bS aB dJ;clear aB dJ aH;cases b;all_goals go_wp2_with fail
  all_goals first
   |exact⟨⟨k+1,I,bR,hb⟩,bW⟩
   |(go_ret;exact RB.mk _)
 go_wp2_with fail;go_ret;exact RB.mk _
theorem aAm(xs ys:List GV)(A A':Option aK)(n c n' c' B:Nat)(w:Y)(hr:Reads w B 3 A n (xs.flatMap xY))(tK:Reads w B 3 A' n' (ys.flatMap xY))(hB:B<=w.heap.size)(hn:n<=1000)(Ip:n'<=1000):
  aF aa 234 #[O A n c,O A' n' c'] w (RB w):=by have HE:=G (aAl xs ys A A' n c n' c' B w hr tK hB hn Ip);clear hr tK;go_enter func234,ntmps234;go_wp2_with fail;refine HE.mono ?_;rintro e w1 ⟨⟨b,rfl⟩,hb⟩;go_wp2_with fail;go_ret;exact RB.mk _
theorem gG.drew{M:Mw}{P:ak->Prop}(h:gG M P w b):gG M P w.drew b:=h
theorem aeB{P:ak->Prop}{k:Int}(h:gG Kt P w b)(hk:fU k):∃v t,(Jq 213 (.map (N b)) (C D k) Z).run aa w= .ok (bz #[v,ax t]) w/\(t=Z->P v)/\(t=X->v=C D 0):=ams h ⟨k,rfl,hk⟩
theorem aAn(W:Y)(bf:Nat)(g:gm)(jb:Nat)(v:ak)(mi mr:Nat)(es:List gV)(x:gV)(B:Nat)(hj:Cx W bf g jb v mi mr es)(hl:es.length<=1000)(hx:xm W B x)(hB:B<=W.heap.size):
  aF aa 174 #[aQ (N ⟨jb,0,J⟩),aD (jJ x)] W (R1 W):=by
 obtain⟨i0,i1,i2,i3,i4,i5,i6⟩:=Ku x;obtain⟨q1,q2,q3⟩:=amL g v mi mr;have Bi:=XT x;have HO:=G hx.of;have Uq:=G hx;have HJ:=G hj;clear hx hj;generalize x.of=xo at*;generalize x.bD=xe at*;generalize x.date=xd at*;generalize jJ x=EA at*;have aT:=bJ (bQ W) (ag EA 90);have Bj:=G (ai.new W 90 EA);have Q6:=G (HJ.E.blk.alloc (ag EA 90));have HI0:=G (HJ.E.ix.alloc (ag EA 90));have jL:=G (HJ.E.rv.alloc (ag EA 90));have Ol:=G (HJ.E.en.alloc (ag EA 90));go_enter func174,ntmps174;have lY:W.heap.size<(W.alloc (ag EA 90)).heap.size:=aG;go_upto_region 1 with fail;generalize W.alloc _=W0 at*;have x4:=(Bj.E.cell 4).trans i4;have y22:=(Q6.E.cell 22).trans q2;obtain⟨rv,rt,gu,hr1,yX⟩:=aeB HI0.E.drew HO.E;refine iA (S:=λu=>u.cell? ⟨jb,22,J⟩=N (.map (N mi))/\u.cell? ⟨W.heap.size,4,J⟩=N (C D xo)) dh ⟨y22,x4⟩ (λbg=>?_);refine aA 0 ?_;refine aA 1 ?_;refine aA 2 ?_;refine aA 3 ?_;refine aA 4 ?_;refine aA 5 ?_;refine bK 6 (λK hK=>?_);go_simp;refine bF hK bg (λ_=>?_);clear hK K gu;refine aA 7 ?_;refine aA 8 ?_;refine aA 9 ?_;refine aA 10 ?_;refine aA 11 ?_;refine gI ?_;clear bg x4 y22;have kr:aj W.heap.size W W0.drew:=kD aT;cases rt;·go_wp2_with fail;go_ret;exact R1.mk _
 obtain⟨q,rfl,hq⟩:=hr1 rfl;clear hr1 yX;have Ji:=(Q6.E.cell 21).trans q1;obtain⟨A,c,hv⟩:=eO Ol.E;subst hv;obtain⟨ad,rfl,_,c0,c1,c2,c3,c4,c5,c6⟩:=(Reads.uA Ol.E).XP hq;have b3:(q:Int)<(es.length:Int):=I;have WN:af (xm W0 W0.heap.size (es.getD q ay)):=by have:=HJ.E.ok (es.getD q ay) (by simp[dO,hq]);exact(this.below aT).mH
 generalize es.getD q ay=y at*;obtain⟨z0,z1,z2,z3,z4,z5,z6,z7,z8,z9⟩:=y;simp only[] at c0 c1 c2 c3 c4 c5 c6;have Kr:=G (ai.new W0 90 #[C D z0,C D z1,C D z2,C D z3,C D z4,au ⟨z5.toArray⟩,O z6 z7 z8]).drew;have kK:=G (Bj.E.alloc (ag #[C D z0,C D z1,C D z2,C D z3,C D z4,au ⟨z5.toArray⟩,O z6 z7 z8] 90)).drew;have Ur:=G (Q6.E.alloc (ag #[C D z0,C D z1,C D z2,C D z3,C D z4,au ⟨z5.toArray⟩,O z6 z7 z8] 90)).drew;have ku:=G (jL.E.alloc (ag #[C D z0,C D z1,C D z2,C D z3,C D z4,au ⟨z5.toArray⟩,O z6 z7 z8] 90)).drew;have aB:aj W.heap.size W ((W0.alloc (ag #[C D z0,C D z1,C D z2,C D z3,C D z4,au ⟨z5.toArray⟩,O z6 z7 z8] 90)).drew):=kD (bJ aT _);have amN:af (xm ((W0.alloc (ag #[C D z0,C D z1,C D z2,C D z3,C D z4,au ⟨z5.toArray⟩,O z6 z7 z8] 90)).drew) W0.heap.size ⟨z0,z1,z2,z3,z4,z5,z6,z7,z8,z9⟩):=xm.low WN.E (aC _) (aC _) (kD (bJ (bQ W0) _));have ed:W0.heap.size<((W0.alloc (ag #[C D z0,C D z1,C D z2,C D z3,C D z4,au ⟨z5.toArray⟩,O z6 z7 z8] 90)).drew).heap.size:=by show W0.heap.size<(W0.alloc _).heap.size;rw[aW];exact Nat.lt_succ_self _
 go_upto_region 5 with fail;generalize(⟨z5.toArray⟩:ByteArray)=Z5 at*;generalize World.drew (pJ W0 _)=W1 at*;have x4:=(kK.E.cell 4).trans i4;have y23:=(Ur.E.cell 23).trans q3;obtain⟨sv,st,gu,hr1,yX⟩:=aeB ku.E.drew HO.E;refine iA (S:=λu=>u.cell? ⟨jb,23,J⟩=N (.map (N mr))/\u.cell? ⟨W.heap.size,4,J⟩=N (C D xo)) dh ⟨y23,x4⟩ (λbg=>?_);refine aA 0 ?_;refine aA 1 ?_;refine aA 2 ?_;refine aA 3 ?_;refine aA 4 ?_;refine aA 5 ?_;refine bK 6 (λK hK=>?_);go_simp;refine bF hK bg (λ_=>?_);clear hK K gu;refine aA 7 ?_;refine aA 8 ?_;refine aA 9 ?_;have hsv:∃n:Int,sv=C D n:=by
  cases st;·exact⟨0,yX rfl⟩
  exact hr1 rfl
 obtain⟨sn,rfl⟩:=hsv;refine aA 10 ?_;refine aA 11 ?_;refine gI ?_;clear bg x4 y23 c0 c1 c2 c3 c4 c5 c6 hr1 yX aT kr;have kr:aj W.heap.size W W1.drew:=kD aB;obtain⟨_,w1,w2,w3,_,_,w6⟩:W1.cell? ⟨W0.heap.size,0,J⟩=N (C D z0)/\W1.cell? ⟨W0.heap.size,1,J⟩=N (C D z1)/\W1.cell? ⟨W0.heap.size,2,J⟩=N (C D z2)/\W1.cell? ⟨W0.heap.size,3,J⟩=N (C D z3)/\W1.cell? ⟨W0.heap.size,4,J⟩=N (C D z4)/\W1.cell? ⟨W0.heap.size,5,J⟩=N (.string Z5)/\W1.cell? ⟨W0.heap.size,6,J⟩=N (O z6 z7 z8):=⟨Kr.E.cell 0,Kr.E.cell 1,Kr.E.cell 2,Kr.E.cell 3,Kr.E.cell 4,Kr.E.cell 5,Kr.E.cell 6⟩;have f1:=(kK.E.cell 1).trans i1;have f2:=(kK.E.cell 2).trans i2;have f6:=(kK.E.cell 6).trans i6;have AQ:=G (aAm x.ls z9 x.A z6 x.n x.c z7 z8 W0.heap.size W1.drew (Reads.more ((Uq.E.low hB (aC _) aB).rd) I) amN.E.rd (Nat.le_of_lt ed) Uq.E.le amN.E.le);generalize x.A=xA at*;generalize x.n=xN at*;generalize x.c=xC at*;go_wp2_with fail;all_goals(try(go_ret;exact R1.mk _))
 refine AQ.E.mono ?_;rintro e w9 ⟨⟨b,rfl⟩,rO⟩;have qy:=bS rO kr;cases b;all_goals go_wp2_with fail
 all_goals(go_ret;exact R1.mk _)
theorem Cx.below{g:gm}{es:List gV}(h:Cx W bf g jb v mi mr es)(hb:aj W W W'):Cx W' bf g jb v mi mr es:=⟨h.blk.below hb h.blk.lt,h.jD,h.iD,h.rD,h.ir,h.gr.low h.DW hb,ja h.DW hb.size,own_below h.en hb,λx hx=>(h.ok x hx).below hb,h.ix.below hb h.ix.lt,h.rv.below hb h.rv.lt⟩
theorem Us{M:Mw}{P:ak->Prop}(h:W.ownsRow base e S v n xs)(hm:gG M P W b):v.ownBlock≠N b:=by
 obtain⟨es,dN,hb,_⟩:=hm;rcases h.2 with⟨rfl,_⟩|⟨g',cap,cur,rfl,_,hh,_⟩;·simp[Hd]
 intro he;have:g'=b:=abB;subst this;rw[hh] at hb;cases hb
theorem Ut{cs:Array ak}{M:Mw}{P:ak->Prop}(h:ai W g t cs)(hm:gG M P W b):g≠b:=by rintro rfl;obtain⟨es,dN,hb,_⟩:=hm;have h':W.heap[g]?=N (ag cs t (0,0)):=h;rw[h'] at hb;cases hb
theorem X9(hg:W.grownBy W' (N b))(hD:bf<=b)(hW:bf<=W.heap.size):aj bf W W':=(aN bf W).grown hg hW (λq hq=>by cases hq;exact hD)
theorem pU.aeC{g:gm}(h:pU w bf g)(hb:aj bf w w'):pU w' bf g:=⟨h.mH.keep λ_ hp=>hb.cell hp,h.nc,h.en,h.el⟩
theorem Di.more{l:List bE}(h:Di w B A n c l)(hB:B<=B'):Di w B' A n c l:=⟨h.rd.more hB,h.le,h.cap,h.ok⟩
theorem Ev.more{l:List ib}(h:Ev w B A n c l)(hB:B<=B'):Ev w B' A n c l:=⟨h.rd.more hB,h.le,h.cap,h.ok⟩
theorem zC.more{g:gm}(h:zC w B g)(hB:B<=B'):zC w B' g:=⟨h.ch.more hB,h.en.more hB,h.ne,h.ce,h.ro,λx hx=>⟨(h.ok x hx).ch.more hB,(h.ok x hx).li.more hB,(h.ok x hx).nm,(h.ok x hx).cu⟩,h.cu⟩
theorem xm.more{x:gV}(h:xm w B x)(hB:B<=B'):xm w B' x:=⟨h.rd.more hB,h.le,h.cap,h.tx,h.id,h.of⟩
theorem Cx.aAo{g:gm}{es:List gV}(h:Cx W bf g jb v mi mr es)(hg:W.grownBy W' (N mr))(hm:gG Kt (λu=>∃i:Int,u=C D i) W' mr):Cx W' bf g jb v mi mr es:=⟨h.blk.grown hg (λe=>Ut h.blk h.rv MW),h.jD,h.iD,h.rD,h.ir,h.gr.aeC (X9 hg h.rD h.DW),ja h.DW hg.size,h.en.kept hg (.inr (Us h.en h.rv)),λx hx=>(h.ok x hx).kept hg (.inr (Us (h.ok x hx).li h.rv)),h.ix.grown hg (λe=>h.ir MW),hm⟩
structure Uu(W:Y)(bf:Nat)(g:gm)(jb:Nat)(v:ak)(mi mr:Nat)(es:List gV):Prop where
 blk:ai W jb 298 (Dy g v mi mr)
 jD:bf<=jb
 iD:bf<=mi
 rD:bf<=mr
 ir:mi≠mr
 gr:pU W bf g
 DW:bf<=W.heap.size
 en:W.ownsRow bf 90 7 v es.length (es.flatMap qp)
 ok:∀x∈es,yZ W bf x
 ix:gG Kt (λu=>∃i:Nat,u=C D i/\i<es.length+1) W mi
 rv:gG Kt (λu=>∃i:Int,u=C D i) W mr
theorem Uu.below{g:gm}{es:List gV}(h:Uu W bf g jb v mi mr es)(hb:aj W W W'):Uu W' bf g jb v mi mr es:=⟨h.blk.below hb h.blk.lt,h.jD,h.iD,h.rD,h.ir,h.gr.low h.DW hb,ja h.DW hb.size,own_below h.en hb,λx hx=>(h.ok x hx).below hb,h.ix.below hb h.ix.lt,h.rv.below hb h.rv.lt⟩
theorem Cx.aAp{g:gm}{es:List gV}(h:Cx W bf g jb v mi mr es)(hg:W.grownBy W' (N mi))(hm:gG Kt (λu=>∃i:Nat,u=C D i/\i<es.length+1) W' mi):Uu W' bf g jb v mi mr es:=⟨h.blk.grown hg (λe=>Ut h.blk h.ix MW),h.jD,h.iD,h.rD,h.ir,h.gr.aeC (X9 hg h.iD h.DW),ja h.DW hg.size,h.en.kept hg (.inr (Us h.en h.ix)),λx hx=>(h.ok x hx).kept hg (.inr (Us (h.ok x hx).li h.ix)),hm,h.rv.grown hg (λe=>h.ir MW)⟩
theorem amO{P:ak->Prop}{k:Int}(h:gG Kt P w b)(hk:fU k)(hu:P u):∃w1,(NC 213 (.map (N b)) (C D k) u).run aa w= .ok () w1/\w.grownBy w1 (N b)/\gG Kt P w1 b:=aeu h ⟨k,rfl,hk⟩ hu
section
variable{P:Program}{ops:Array Oper}{Q:Exit->Act->Y->Prop}{md:Region.Mode}{S:Y->Prop}
theorem Q7(i:Nat){oi:Oper}{oO:Nat}{listed L:Array Bool}{a a':Act}(ty:bM)(x:Operand)(b o:Nat)(cs:Array ak)(d:TypeDesc)(hc:∀u,S u->u.rangeAt b o cs.toList)(hu:P.underlying ty=N d)(hd:d.isRow=Z)(hn:(P.info? ty).map (·.size)=N cs.size)
  (h:yu P md ops Q S oO L a' w) (hi:ops[i]?=N oi:=by rfl) (ho:oi.op= .load ty x:=by rfl) (hx:a.eval x=aQ (N ⟨b,o,J⟩):=by rfl) (hw:sZ oi (yielded ops a.tmps)=Z:=by rfl)
  (hs:Region.noSelect ops=Z:=by kernel_rfl) (hf:Region.free md ops listed i=Z:=by kernel_rfl) (hr:(RJ md ops listed).contains i=Z:=by kernel_rfl)
  (hS:S w:=by assumption) (hQ:∀c a w,Q (.panic c) (a.put oi.dst (aD cs)) w->Q (.panic c) a w:=by exact λ_ _ _ h=>h)
  (hL:listed.setIfInBounds i Z=L:=by rfl)
  (ha:a.put oi.dst (aD cs)=a':=by simp only[uB,pY,oh,oP,uC,uD,uE];rfl):yu P md ops Q S (oO+1) listed a w:=wpAnyH_take hi hs hf hr hQ (.inl ⟨hw,λu hu'=>by have:=run_loadVar_mid (P:=P) u b o ty cs.toList d (hc u hu') hu hd (by rw[hn,Mx]);rw[Bl] at this;unfold execOp;simp only[ho,hx,Instr.loadAt,Instr.sureAddr,Sem.run_bind,Sem.run_pure,Result.andThen_ok,this]⟩) hS (by rw[hL,ha];exact h)
end
theorem aa1{cs:Array ak}(h:ai W g t cs):W.rangeAt g 0 cs.toList:=λj u hu=>by rw[Nat.zero_add,h.cell,<-OH];exact hu
theorem aAq(h:W.ownsRow base e S v n xs):v.ownBlock≠N W.heap.size:=by
 rcases h.2 with⟨rfl,_⟩|⟨g',cap,cur,rfl,_,hh,_⟩;·simp[Hd]
 intro he;have h1:g'=W.heap.size:=abB;have h2:=ai.lt (w:=W) (g:=g') (t:=e) (cs:=cur) hh;omega
theorem aa2{n' S':Nat}{e':bM}{v':ak}{xs':List ak}(h:W.ownsRow base e S v n xs)(h':W.ownsRow base' e' S' v' n' xs')(aY:e≠e'):v.ownBlock=J\/v.ownBlock≠v'.ownBlock:=by
 rcases h'.2 with⟨rfl,_⟩|⟨g',cap,cur,rfl,_,hh,_⟩
 ·cases hv:v.ownBlock with
  |none=>exact .inl rfl
  |some b=>exact .inr (by simp[Hd])
 exact .inr (iQ h hh aY)
theorem aAr:(aa.info? 90).map (λi=>(i.zero,i.size,i.bytes))=N (N (aD zeroE),7,80):=by kernel_rfl
theorem Uu.fin{g:gm}{v':ak}{es:List gV}{x':gV}(h:Uu W bf g jb v mi mr es)(hox:yZ W bf x')(hg:W.grownBy W' v.ownBlock)(aV:W'.ownsRow bf 90 7 v' (es.length+1) (es.flatMap qp++qp x')):ai W' jb 298 (Dy g v mi mr)/\Cx (W'.setCell ⟨jb,21,J⟩ v') bf g jb v' mi mr (es++ [x']):=by
 have hb:ai W' jb 298 (Dy g v mi mr):=h.blk.grown hg (λe=>iQ h.en h.blk aL e.symm);have hD:aj bf W W':=tu h.en hg h.DW;have hD2:aj bf W (W'.setCell ⟨jb,21,J⟩ v'):=hD.setCell (p:=⟨jb,21,J⟩) h.jD v';have hi:=h.ix.grown hg (λe=>Us h.en h.ix e.symm);have hr:=h.rv.grown hg (λe=>Us h.en h.rv e.symm);have aX:∀y,yZ W bf y->yZ (W'.setCell ⟨jb,21,J⟩ v') bf y:=λy hy=>by have h1:=hy.kept hg (aa2 hy.li h.en aL);exact h1.kept (ve W' jb 21 v') (.inr (iQ h1.li hb aL))
 refine⟨hb,?_,h.jD,h.iD,h.rD,h.ir,h.gr.aeC hD2,ja h.DW hD2.size,?_,?_,?_,?_⟩;·have:=hb.bL 21 v';rwa [aAh] at this
 ·have h1:=aV.kept (ve W' jb 21 v') (.inr (iQ aV hb aL));rw[eB,List.flatMap_append,List.flatMap_singleton];exact h1
 ·intro y hy;rcases pW.1 hy with hy|hy;·exact aX y (h.ok y hy)
  rw[lF] at hy;subst hy;exact aX _ hox
 ·have h1:=hi.grown (ve W' jb 21 v') (λe=>Ut hb hi MW);rw[eB];exact h1
 exact hr.grown (ve W' jb 21 v') (λe=>Ut hb hr MW)
def amP(W:Y)(bf:Nat)(g:gm)(jb mi mr n:Nat)(e:Ending)(W':Y):Prop:=(∃a:Int,e=aI a)/\(∃v' es',Cx W' bf g jb v' mi mr es'/\es'.length<=n+1)/\aj bf W W'
theorem aAs(W:Y)(bf:Nat)(g:gm)(jb:Nat)(v:ak)(mi mr:Nat)(es:List gV)(x:gV)(B:Nat)(hj:Cx W bf g jb v mi mr es)(hl:es.length<=900)(hx:xm W B x)(Ya:B<=bf):
  aF aa 108 #[aQ jb,aD (jJ x)] W (amP W bf g jb mi mr es.length):=by
 obtain⟨i0,i1,i2,i3,i4,i5,i6⟩:=Ku x;have Bi:=XT x;have hB:B<=W.heap.size:=ja Ya hj.DW;have HX:=G hx;have HJ:=G hj;have nR:af (∀W',aj W W W'->_):=λW' hW=>az3 g x W W' ⟨(hj.gr.low hj.DW hW).mH.more hj.DW,hj.gr.nc,hj.gr.en,hj.gr.el⟩ ((hx.low hB (aC _) hW).more hB) hW.size;clear hj;obtain⟨A,c,rfl⟩:=eO HJ.en;have HRV:af (∀W',aj W W W'->Cx W' bf g jb (O A es.length c) mi mr es->aF aa 174 #[aQ jb,aD (jJ x)] W' (R1 W')):=λW' hW hJ=>aAn W' bf g jb _ mi mr es x B hJ I (hx.low hB (aC _) hW) lI;have Te:af (∀W',aj bf W W'->aF aa 175 #[aD (jJ x)] W' λe w'=>∃x',e=aI (aD (jJ x'))/\yZ w' W' x'/\aj W' W' w'):=λW' hW=>aAg x B W' ⟨hx.rd.keep λ_ hp=>hW.cell I,hx.le,hx.cap,hx.tx,hx.id,hx.of⟩ (by have:=hW.size;have:=HJ.DW;omega);clear hx;obtain⟨q1,q2,q3⟩:=amL g (O A es.length c) mi mr;have k9:decide ((es.length:Int)>=2000)=X:=fI;have k9':decide ((2000:Int)<=(es.length:Int))=X:=k9;obtain⟨EA,Uo⟩:∃a,a=jJ x:=⟨_,rfl⟩;rw[<-Uo] at i0 i1 i2 i3 i4 i5 i6 Bi nR HRV Te |-;clear Uo;have aP:=G (bJ (bQ W) (ag EA 90));have Bj:=G (ai.new W 90 EA);have Q6:=G (HJ.below aP);have oN:=HJ.blk.lt;go_enter func108,ntmps108;have lY:W.heap.size<(W.alloc (ag EA 90)).heap.size:=aG;go_upto_region 3 with fail;generalize W.alloc _=W0 at*;have hRG:W0.drew.rangeAt jb 0 (dx g).toList:=λj u hu=>by rw[Nat.zero_add];exact(Q6.blk.cell j).trans (amM g _ mi mr j u hu)
 refine iA (S:=λu=>u.rangeAt jb 0 (dx g).toList/\ai u W 90 EA) dh ⟨hRG,Bj⟩ (λbg=>?_);refine aA 0 ?_;refine aA 1 ?_;refine aA 2 ?_;refine Q7 3 29 (.tmp 13) jb 0 (dx g) _ (λu h=>h.1) underlying29 rfl Y4 ?_;refine Q7 4 90 (.tmp 3) W 0 EA _ (λu h=>aa1 h.2) underlying90 rfl (by rw[XV,Bi]) ?_;all_goals
  refine bK 5 (λK hK=>?_);go_simp;refine(nR _ (kD aP)).mono ?_;rintro e w1 ⟨⟨a,rfl,_⟩,aB⟩;go_simp;refine hK.out _ _ ⟨λj u hu=>?hr,Bj.below (bS aB (kD (bQ W0))) Bj.lt⟩ (λ_=>?_);case hr=>rw[Nat.zero_add];exact((Q6.below (bS aB (kD (bQ W0)))).blk.cell j).trans (amM g _ mi mr j u hu)
  clear hK K;(try simp only[uB,pY,oh,oP,uC,uD,uE,Bl]);refine aA 6 ?_;refine gI ?_;have Ag:aj W0 W0 w1:=bS aB (kD (bQ W0));have aM:=G (bS Ag aP);have kK:=G (Bj.below Ag Bj.lt);have Ur:=G (Q6.below Ag);have ed:=kK.lt;clear aB Ag hRG bg;have qP:af (∀ {W'},aj W W W'->∀n:Int,amP W bf g jb mi mr es.length (aI n) W'):=λ{W'} hb n=>⟨⟨n,rfl⟩,⟨_,es,HJ.below hb,I⟩,hb.mono HJ.DW⟩;cases hq:a==0;·go_wp2_with fail;go_ret;exact qP aM _
  go_upto_region 6 with fail;have y22:=(Ur.blk.cell 22).trans q2;have x0:=(kK.cell 0).trans i0;obtain⟨fv,ft,gu,hr1,yX⟩:=aeB Ur.ix.drew HX.id;have hfv:∃n:Int,fv=C D n:=by
   cases ft;·exact⟨0,yX rfl⟩
   obtain⟨n,hn,_⟩:=hr1 rfl;exact⟨n,hn⟩
  obtain⟨fn,rfl⟩:=hfv;refine iA (S:=λu=>u.cell? ⟨jb,22,J⟩=N (.map (N mi))/\u.cell? ⟨W,0,J⟩=N (C D x.id)) dh ⟨y22,x0⟩ (λbg=>?_);refine aA 0 ?_;refine aA 1 ?_;refine aA 2 ?_;refine aA 3 ?_;refine aA 4 ?_;refine aA 5 ?_;refine bK 6 (λK hK=>?_);go_simp;refine hK.out _ _ bg (λ_=>?_);clear hK K gu;(try simp only[uB,pY,oh,oP,uC,uD,uE,Bl]);refine aA 7 ?_;refine aA 8 ?_;refine aA 9 ?_;refine aA 10 ?_;refine aA 11 ?_;refine gI ?_;clear bg y22 x0 hr1 yX;have aS:=G (kD aM);have q9:=G kK.drew;have HJ2:=G (Ur.below (kD (bQ w1)));have fw:W.heap.size<w1.drew.heap.size:=ed;clear aM kK Ur ed;generalize w1.drew=w2 at*;cases ft;case true=>go_wp2_with fail;go_ret;exact qP aS _
  have f3:=(q9.cell 3).trans i3;cases hk:x.kind==3;focus
   have Ji:=(HJ2.blk.cell 21).trans q1;go_upto_region 17 with fail;have Dz:=G (aS.mono HJ.DW);have HEz:=G q9;have Uw:=G HJ2;clear aS q9 HJ2 Ji f3 fw;generalize w2=wz at*
  rotate_left;focus
   go_wp2_with(refine Uk iN _ rfl _ rfl _ Bi q9 ?_);refine(HRV w2 aS HJ2).mono ?_;rintro e w3 ⟨⟨a2,rfl⟩,aR⟩;have bC:=G (bS aR aS);have xQ:=G (q9.below aR q9.lt);have Mk:=G (HJ2.below aR);clear aR aS q9 HJ2 f3;have f3:=(xQ.cell 3).trans i3;cases iL:a2==0;·go_wp2_with fail;go_ret;exact qP bC _
   have Ji:=(Mk.blk.cell 21).trans q1;go_upto_region 16 with fail;have y23:=(Mk.blk.cell 23).trans q3;have x4:=(xQ.cell 4).trans i4;have x0:=(xQ.cell 0).trans i0;have Ml:=G (Mk.below (kD (bQ w3)));have zH:=G xQ.drew;have dE:=G ((kD bC).mono HJ.DW);obtain⟨w5,gu,uT,IQ⟩:=amO (P:=λu=>∃i:Int,u=C D i) (u:=C D x.id) Ml.rv HX.of ⟨_,rfl⟩;have Ki:=G (Ml.aAo uT IQ);have LW:=G (zH.grown uT (λe=>Ut zH Ml.rv MW));have fT:=G (dE.trans (X9 uT Ml.rD Ml.DW));refine iA (S:=λu=>u.cell? ⟨jb,23,J⟩=N (.map (N mr))/\u.cell? ⟨W,4,J⟩=N (C D x.of)/\u.cell? ⟨W,0,J⟩=N (C D x.id)) dh ⟨y23,x4,x0⟩ (λbg=>?_);refine aA 0 ?_;refine aA 1 ?_;refine aA 2 ?_;refine aA 3 ?_;refine aA 4 ?_;refine aA 5 ?_;refine aA 6 ?_;refine aA 7 ?_;refine bK 8 (λK hK=>?_);go_simp;refine hK.out _ _ ⟨(Ki.blk.cell 23).trans q3,(LW.cell 4).trans i4,(LW.cell 0).trans i0⟩ (λ_=>?_);clear hK K gu bg;(try simp only[uB,pY,oh,oP,uC,uD,uE,Bl]);refine gI ?_;clear Ji y23 x4 x0 f3 Mk Ml xQ zH bC dE uT IQ;have Dz:=G fT;have HEz:=G LW;have Uw:=G Ki;clear fT LW Ki fw;go_upto_region 17 with fail;generalize w5=wz at*
  all_goals
   have Ji:=(Uw.blk.cell 21).trans q1;have y22:=(Uw.blk.cell 22).trans q2;have x0:=(HEz.cell 0).trans i0;have Oz:=G (Uw.below (kD (bQ wz)));have Gt:=G HEz.drew;obtain⟨w6,gu,bU,Qj⟩:=amO (P:=λu=>∃i:Nat,u=C D i/\i<es.length+1) (u:=C D (es.length:Int)) (Oz.ix.mono (λu hu=>by obtain⟨i,h1,h2⟩:=hu;exact⟨i,h1,I⟩)) HX.id ⟨es.length,rfl,I⟩;have MB:=G (Oz.aAp bU Qj);have Ux:=G (Gt.grown bU (λe=>Ut Gt Oz.ix MW));have OI:=G ((kD (bQ wz)).mono Uw.DW |>.trans (X9 bU Oz.iD Oz.DW));refine iA (S:=λu=>u.cell? ⟨jb,22,J⟩=N (.map (N mi))/\u.cell? ⟨W,0,J⟩=N (C D x.id)/\u.cell? ⟨jb,21,J⟩=N (O A es.length c)) dh ⟨y22,x0,Ji⟩ (λbg=>?_);refine aA 0 ?_;refine aA 1 ?_;refine aA 2 ?_;refine aA 3 ?_;refine aA 4 ?_;refine aA 5 ?_;refine aA 6 ?_;refine aA 7 ?_;refine aA 8 ?_;refine aA 9 ?_;refine aA 10 ?_;refine bK 11 (λK hK=>?_);go_simp;refine hK.out _ _ ⟨(MB.blk.cell 22).trans q2,(Ux.cell 0).trans i0,(MB.blk.cell 21).trans q1⟩ (λ_=>?_);clear hK K gu bg;(try simp only[uB,pY,oh,oP,uC,uD,uE,Bl]);refine gI ?_;have yN:=G (Dz.trans OI);clear Ji y22 x0 bU Qj Oz Gt Uw HEz Dz OI;go_upto_region 18 with fail;have Kw:=G (adb yN);have Ji:w6.drew.cell? ⟨jb,21,J⟩=N (O A es.length c):=(MB.blk.cell 21).trans q1;refine iA (S:=λu=>ai u W 90 EA) dh Ux (λbg=>?_);refine aA 0 ?_;refine aA 1 ?_;refine aA 2 ?_;refine aA 3 ?_;refine Q7 5 90 (.tmp 3) W 0 EA _ (λu h=>aa1 h) underlying90 rfl (by rw[XV,Bi]) ?_;refine uF 4 6 (λK hK=>?_) (λK hK=>?_);focus
    go_simp;refine hK.out _ _ bg (λ_=>?_);clear hK K;(try simp only[uB,pY,oh,oP,uC,uD,uE,Bl]);refine bK 6 (λK hK=>?_);go_simp;refine(Te _ Kw).mono ?_;rintro e w9 ⟨x',rfl,hox,rO⟩;have Uv:=G (Ux.drew.below rO Ux.lt);have Uy:=G (MB.below (bS rO (kD (bQ w6))));have Q8:=G (Kw.trans (rO.mono MB.DW));have HOX:=G (hox.less MB.DW);have Ji:=(Uy.blk.cell 21).trans q1;clear rO hox;unfold jJ;go_simp;refine hK.out _ _ Uv (λ_=>?_);clear hK K;(try simp only[uB,pY,oh,oP,uC,uD,uE,Bl]);refine bK 7 (λK hK=>?_);go_simp;refine hK.out _ _ (Uv.alloc _) (λ_=>?_);clear hK K;(try simp only[uB,pY,oh,oP,uC,uD,uE,Bl])
   rotate_left;focus
    go_simp;refine(Te _ Kw).mono ?_;rintro e w9 ⟨x',rfl,hox,rO⟩;have Uv:=G (Ux.drew.below rO Ux.lt);have Uy:=G (MB.below (bS rO (kD (bQ w6))));have Q8:=G (Kw.trans (rO.mono MB.DW));have HOX:=G (hox.less MB.DW);have Ji:=(Uy.blk.cell 21).trans q1;have hj9:=Uy.blk.lt;clear rO hox;unfold jJ;go_simp;refine hK.out _ _ Uv (λ_=>?_);clear hK K;(try simp only[uB,pY,oh,oP,uC,uD,uE,Bl]);refine uF 4 7 (λK hK=>?_) (λK hK=>?_);focus
     go_simp;refine hK.out _ _ Uv (λ_=>?_);clear hK K;(try simp only[uB,pY,oh,oP,uC,uD,uE,Bl]);refine bK 7 (λK hK=>?_);go_simp;refine hK.out _ _ (Uv.alloc _) (λ_=>?_);clear hK K;(try simp only[uB,pY,oh,oP,uC,uD,uE,Bl])
    rotate_left;focus
     go_simp;refine hK.out _ _ (Uv.alloc _) (λ_=>?_);clear hK K;(try simp only[uB,pY,oh,oP,uC,uD,uE,Bl]);refine bK 4 (λK hK=>?_);go_simp;refine hK.out _ _ (Uv.alloc _) (λ_=>?_);clear hK K;(try simp only[uB,pY,oh,oP,uC,uD,uE,Bl])
   all_goals
    obtain⟨i0',gz,fu,gq,fG⟩:=info_parts aAr;have jg:=G (mX w9 #[x'.id,x'.bD,x'.date,x'.kind,x'.of,x'.text,O x'.A x'.n x'.c] 90 7 rfl);have Yb:=G (Uy.below (bJ (bQ w9) (ag #[x'.id,x'.bD,x'.date,x'.kind,x'.of,x'.text,O x'.A x'.n x'.c] 90)));have aAt:=G (Uv.alloc (ag #[x'.id,x'.bD,x'.date,x'.kind,x'.of,x'.text,O x'.A x'.n x'.c] 90));have Je:=G (HOX.below (bJ (bQ w9) (ag #[x'.id,x'.bD,x'.date,x'.kind,x'.of,x'.text,O x'.A x'.n x'.c] 90)));have nN:=G (Q8.trans ((bJ (bQ w9) (ag #[x'.id,x'.bD,x'.date,x'.kind,x'.of,x'.text,O x'.A x'.n x'.c] 90)).mono Uy.DW));have hDA:=Yb.DW;have Ga:qp x'= [C D x'.id,C D x'.bD,C D x'.date,C D x'.kind,C D x'.of,au ⟨x'.text.toArray⟩,O x'.A x'.n x'.c]:=rfl;generalize w9.alloc (ag #[x'.id,x'.bD,x'.date,x'.kind,x'.of,x'.text,O x'.A x'.n x'.c] 90)=wA at*;refine bK 8 (λK hK=>?_);refine(if_pos rfl).mpr ?_;refine Y7 _ (.tmp 72) (.tmp 75) 30 rfl bf 90 i0' _ 7 80 underlying30 gz fu gq fG rfl I _ es.length (es.flatMap qp) rfl Yb.en (w9.heap.size+1) (N ⟨w9,0,J⟩) 1 1 (qp x') rfl jg (by rw[Ga];simp[Value.oneCell']) lH I hDA ?_;intro v6 wB aV hg _;obtain⟨hbB,hJB⟩:=Yb.fin Je hg aV;have HJB:=G hJB;have J2:=G ((nN.trans (tu Yb.en hg hDA)).setCell (p:=⟨jb,21,J⟩) Yb.jD v6);have lg:=G (aAt.grown hg (λe=>aAq HJ.en e.symm));obtain⟨A6,c6,rfl⟩:=eO aV;refine hK.out _ _ lg (λ_=>?_);clear hK K aV hg hJB;(try simp only[uB,pY,oh,oP,uC,uD,uE,Bl]);refine aA 9 ?_;refine aA 10 ?_;have z21:=(hbB.cell 21).trans q1;have iB:=hbB.frozen;refine bK 11 (λK hK=>?_);go_simp;refine hK.out _ _ (lg.far (p:=⟨jb,21,J⟩) (show W.heap.size≠jb by omega) _) (λ_=>?_);clear hK K;(try simp only[uB,pY,oh,oP,uC,uD,uE,Bl]);refine gI ?_;clear z21 iB Ji;go_wp2_with fail;go_ret;exact⟨⟨_,rfl⟩,⟨_,_,HJB,aG⟩,J2⟩
theorem aAu(g:gm)(xs:List gV)(A:Option aK)(n c B:Nat)(w:Y)(hg:pU w B g)(hB:B<=w.heap.size)(aY:g.ne<=1000)(hx:XR w B A n c xs)(hn:n<=900):
  aF aa 59 #[aD (dx g),O A n c] w (RI w):=by
 have HN:af (∀W:Y,aj w w W->_):=λW hW=>aAi g B W (hg.low hB hW) lI aY;have HX:=G hx;have bV:=Cw g;generalize dx g=GC at*;have HG:=G (ai.new w 29 GC);have aT:=bJ (bQ w) (ag GC 29);clear hg hx;go_enter func59,ntmps59;go_wp2_with(refine vO iN _ rfl _ rfl _ bV HG ?_);refine(HN _ aT).mono ?_;rintro e w1 ⟨⟨a,rfl,ha⟩|⟨bf,g',jb,rfl,hD,hj⟩,aB⟩
 ·have hb:=bS aB aT;have hq:(a==0)=X:=by rw[beq_eq_false_iff_ne];exact ha
  go_wp2_with fail;go_ret2;exact RI.mk _ _
 have aM:=G (bS aB aT);have HJ:=G hj;have hDw:w.heap.size<=bf:=by have:=aT.size;omega
 clear aB aT hj HG;go_wp2_with fail;go_loopw [21] (λi wr=>∃k:Nat,k<=n/\i=C D k/\aj w w wr/\aeA wr bf g' jb k) (λi _=>n-(intOf i).toNat);case atStart=>exact⟨0,I,rfl,aM,HJ⟩
 obtain⟨k,hk,rfl,aH,hj⟩:=hrel;obtain⟨wo,rfl⟩:=dz wr;have HJO:=G hj;clear hj aM HJ;by_cases aO:k<n
 ·obtain⟨ad,rfl,_,c0,c1,c2,c3,c4,c5,c6⟩:=(HX.rd.fV hB (aC _) aH).XP aO;have WN:af (xm wo B (xs.getD k ay)):=by
   have:k<xs.length:=by rw[XO HX.E.rd];exact aO
   exact(HX.ok _ (by simp[dO,this])).low hB (aC _) aH
  generalize xs.getD k ay=x at*;obtain⟨z0,z1,z2,z3,z4,z5,z6,z7,z8,z9⟩:=x;simp only[] at c0 c1 c2 c3 c4 c5 c6;obtain⟨v,mi,mr,es,hjr,yF⟩:=HJO;have za:=bJ (bQ wo) (ag #[z0,z1,z2,z3,z4,z5,O z6 z7 z8] 90);have HP:=G (aAs _ bf g' jb v mi mr es _ B (hjr.below za) I (WN.low (ja hB aH.size) (aC _) za) I);have eY:=G (bS za aH);unfold jJ at HP;simp only[] at HP;clear hjr za aH;go_wp2_with fail;refine HP.mono ?_;rintro e w3 ⟨⟨b,rfl⟩,⟨v',es',Ua,rU⟩,aR⟩;have jk:=G (eY.trans (aR.mono hDw));have Mk:af (aeA w3 bf g' jb (k+1)):=⟨v',mi,mr,es',Ua,I⟩;clear aR Ua c0 c1 c2 c3 c4 c5 c6;cases hq:b==0;·go_wp2_with fail;have hb:=jk;go_ret2;exact RI.mk _ _
  go_wp2_with fail;exact⟨⟨k+1,I,bR,jk,Mk⟩,bW⟩
 go_wp2_with fail;go_ret2;exact RI.mk _ _
theorem aAv(y m p:Int)(w:Y):aF aa 224 #[aD #[y,m,p]] w (RB w):=(aaq y m p w).mono λe w' ⟨h,hb⟩=>⟨⟨_,h⟩,hb⟩
theorem aAw(g:gm)(rs:List iM)(A:Option aK)(n c:Nat)(q:List UInt8)(p:Int)(B:Nat)(w:Y)(hg:pU w B g)(hB:B<=w.heap.size)(hr:Cv w B A n c rs)(hq:q.length<=9223372036854775807):
  aF aa 284 #[aD (dx g),O A n c,q,p] w (R3 w):=by
 have HV:af (∀W:Y,aj w w W->_):=λW hW=>aev g.cur rs A n c B W (hr.low hB (aC _) hW) lI hg.mH.cu;have HC:=G (λW=>aaW q W hq);obtain⟨j0,j1,j2,j3,j4,j6,j5⟩:=Jg g;generalize(⟨g.cur.toArray⟩:ByteArray)=CU at*;generalize(⟨q.toArray⟩:ByteArray)=Q at*;generalize dx g=GC at*;have HX:=G (ai.new w 29 GC);have aT:=bJ (bQ w) (ag GC 29);have x0:=(HX.cell 0).trans j0;clear hg hr hq;go_enter func284,ntmps284;go_wp2_with fail;refine(HV _ aT).mono ?_;rintro e w1 ⟨⟨b,rfl⟩,aB⟩;have aM:=G (bS aB aT);have bO:=G (HX.below aB aG);clear aT aB HX x0;cases b;·go_wp2_with fail;have hb:=aM;go_ret3;exact R3.mk _ _ _
 go_wp2_with fail;refine(HC _).mono ?_;rintro e w2 ⟨⟨b,rfl⟩,aJ⟩;have ed:=bO.lt;have aS:=G (bS aJ aM);have eu:=G (bO.below aJ ed);have x1:=(eu.cell 1).trans j1;have x2:=(eu.cell 2).trans j2;have x3:=(eu.cell 3).trans j3;clear aJ aM bO;cases b;·go_wp2_with fail;have hb:=aS;go_ret3;exact R3.mk _ _ _
 go_wp2_with fail;refine(aAv _ _ _ _).mono ?_;rintro e w3 ⟨⟨b,rfl⟩,aR⟩;have fw:=eu.lt;have bC:=G (bS aR aS);have fD:=G (eu.below aR fw);clear x1 x2 x3;have x1:=(fD.cell 1).trans j1;have x2:=(fD.cell 2).trans j2;have x3:=(fD.cell 3).trans j3;clear aR aS eu;cases b;·go_wp2_with fail;have hb:=bC;go_ret3;exact R3.mk _ _ _
 go_wp2_with fail;refine(aml _ _ _ _ _).mono ?_;rintro e w4 ⟨⟨a1,a2,rfl⟩,bu⟩;have fM:=fD.lt;have dE:=G (bS bu bC);have sN:=G (fD.below bu fM);clear x1 x2 x3;have x1:=(sN.cell 1).trans j1;have x2:=(sN.cell 2).trans j2;have x3:=(sN.cell 3).trans j3;clear bu bC fD;go_wp2_with fail;refine(azf _ _ _ _ _).mono ?_;rintro e w5 ⟨⟨a3,a4,rfl⟩,cO⟩;have hb:=bS cO dE;clear cO dE sN x1 x2 x3;go_wp2_with fail;all_goals(go_ret3;exact R3.mk _ _ _)
theorem aAx(args:Array ak)(w:Y):(callFunc 307 args).run aa w= .ok (.enter 307 args) w:=by simp[go_sem]
theorem aAy(s:List UInt8)(w:Y)(hs:s.length<=9223372036854775807):aF aa 307 #[s] w (RB w):=by have HC:=G (λW=>aaW s W hs);generalize(⟨s.toArray⟩:ByteArray)=S at*;go_enter func307,ntmps307;go_wp2_with fail;refine(HC _).mono ?_;rintro e w1 ⟨⟨b,rfl⟩,hb⟩;go_wp2_with fail;go_ret;exact RB.mk _
theorem aAz(ad:aK)(s:List UInt8)(c:Nat)(w:Y)(mK:ad.block<w.heap.size)(hc:w.cell? ad=N (au ⟨s.toArray⟩))(hs:s.length<=9223372036854775807):
  aF aa 311 #[O (N ad) 1 c,.func (.func 307) #[] #[]] w (R1 w):=by
 have HF:=G (λW=>aAy s W hs);have HC:=G hc;have oo:=aAx;clear hc;generalize(⟨s.toArray⟩:ByteArray)=S at*;go_enter func311,ntmps311;go_wp2_with fail;go_loopw [8] (λi wr=>∃k:Nat,k<=1/\i=C D k/\aj w w wr) (λi _=>1-(intOf i).toNat);case atStart=>exact⟨0,I,rfl,bQ w⟩
 obtain⟨k,hk,rfl,aH⟩:=hrel;obtain⟨wo,rfl⟩:=dz wr;by_cases aO:k<1
 ·obtain rfl:k=0:=by omega
  have c0:wo.cell? ad=N (.string S):=(aH.cell mK).trans HC;go_wp2_with fail;refine(HF _).mono ?_;rintro e w1 ⟨⟨b,rfl⟩,hb⟩;have aB:=aU aH hb;clear c0 hb aH;cases b;·go_wp2_with fail;exact⟨⟨1,I,KO,aB⟩,Fb⟩
  go_wp2_with fail;go_ret;exact⟨⟨_,rfl⟩,aB⟩
 obtain rfl:k=1:=by omega
 go_wp2_with fail;go_ret;exact⟨⟨_,rfl⟩,aH⟩
theorem aAA(ad:aK)(s:List UInt8)(c:Nat)(w:Y)(mK:ad.block<w.heap.size)(hc:w.cell? ad=N (au ⟨s.toArray⟩))(hs:s.length<=9223372036854775807):
  aF aa 306 #[O (N ad) 1 c,.func (.func 307) #[] #[]] w (RB w):=by have HI:=G (aAz ad s c w mK hc hs);clear hc;go_enter func306,ntmps306;exact amu
theorem aAB(g:gm)(rs:List iM)(A:Option aK)(n c:Nat)(d:Int)(ad:aK)(s:List UInt8)(c1:Nat)(B:Nat)(w:Y)(hg:pU w B g)(hB:B<=w.heap.size)(hr:Cv w B A n c rs)(mK:ad.block<w.heap.size)(hc:w.cell? ad=N (au ⟨s.toArray⟩))(hs:s.length<=9223372036854775807):
  aF aa 288 #[aD (dx g),O A n c,d,O (N ad) 1 c1] w (R1 w):=by
 have HV:af (∀W:Y,aj w w W->_):=λW hW=>aev g.cur rs A n c B W (hr.low hB (aC _) hW) lI hg.mH.cu;have HC:af (∀W:Y,aj w w W->_):=λW hW=>aAA ad s c1 W (yA mK hW.size) ((hW.cell mK).trans hc) hs;obtain⟨j0,j1,j2,j3,j4,j6,j5⟩:=Jg g;generalize(⟨g.cur.toArray⟩:ByteArray)=CU at*;generalize dx g=GC at*;have HX:=G (ai.new w 29 GC);have aT:=bJ (bQ w) (ag GC 29);have x0:=(HX.cell 0).trans j0;clear hg hr hc;go_enter func288,ntmps288;go_wp2_with fail;refine(HV _ aT).mono ?_;rintro e w1 ⟨⟨b,rfl⟩,aB⟩;have aM:=G (bS aB aT);clear aT aB HX x0;cases b;·go_wp2_with fail;have hb:=aM;go_ret;exact R1.mk _
 go_wp2_with fail;refine(HC _ aM).mono ?_;rintro e w2 ⟨⟨b,rfl⟩,aJ⟩;have hb:=bS aJ aM;clear aJ aM;cases b;·go_wp2_with(refine(SS _ _).mono ?_;rintro e w3 ⟨rfl,rfl⟩;dsimp only);all_goals(go_ret;exact R1.mk _)
 go_wp2_with fail;go_ret;exact R1.mk _
def GY(W:Y)(q:Nat):Prop:=∃(S:ByteArray) (a b c:Int) (t:Bool),ai W q 405 #[.string S,a,b,c,t]
theorem aAC{v0 v1 v2 v3 v4 u0 u1 u2 u3 u4:ak}(h:ai W q T #[v0,v1,v2,v3,v4]):ai (((((W.setCell ⟨q,0,J⟩ u0).setCell ⟨q,1,J⟩ u1).setCell ⟨q,2,J⟩ u2).setCell ⟨q,3,J⟩ u3).setCell ⟨q,4,J⟩ u4) q T #[u0,u1,u2,u3,u4]:=by have:=((((h.bL 0 u0).bL 1 u1).bL 2 u2).bL 3 u3).bL 4 u4;simpa using this
theorem amS{o:Obj}(h:W=(w.alloc o).drewN n\/∃u0 u1 u2 u3 u4,W=((((((w.alloc o).drewN n).setCell ⟨q,0,J⟩ u0).setCell ⟨q,1,J⟩ u1).setCell ⟨q,2,J⟩ u2).setCell ⟨q,3,J⟩ u3).setCell ⟨q,4,J⟩ u4):w.grownBy W (N q):=by
 have h1:w.grownBy ((w.alloc o).drewN n) (N q):=Vb (EN (bJ (bQ w) o) n) (N q);rcases h with rfl|⟨u0,u1,u2,u3,u4,rfl⟩;·exact h1
 exact((((h1.trans (ve _ q 0 u0)).trans (ve _ q 1 u1)).trans (ve _ q 2 u2)).trans (ve _ q 3 u3)).trans (ve _ q 4 u4)
theorem amT(h:R:=by exact⟨rfl,⟨S,a,b,c,Z,aAC (HX.drewN _)⟩,amS (.inr ⟨_,_,_,_,_,rfl⟩)⟩):R:=h
theorem aAD(q:Nat)(S:ByteArray)(a b c:Int)(w:Y)(hl:GY w q):
  aF aa 289 #[aQ q,aD #[.string S,a,b,c]] w λe w'=>e=aI (bz #[])/\GY w' q/\w.grownBy w' (N q):=by
 obtain⟨S0,a0,b0,c0,t,hb⟩:=hl;have hql:=hb.lt;have HX:=G (hb.alloc (ag #[.string S,a,b,c] 234));have x0:w.cell? ⟨q,0,J⟩=N (.string S0):=hb.cell 0;have x1:w.cell? ⟨q,1,J⟩=N (C D a0):=hb.cell 1;have x2:w.cell? ⟨q,2,J⟩=N (C D b0):=hb.cell 2;have x3:w.cell? ⟨q,3,J⟩=N (C D c0):=hb.cell 3;have x4:w.cell? ⟨q,4,J⟩=N (ax t):=hb.cell 4;have iB:=hb.frozen;clear hb;cases t;all_goals
  go_enter func289,ntmps289;go_wp2_with fail;go_quiet(fail);go_wp2_with fail
 all_goals go_end0
 ·exact amT
 ·exact amT
 exact⟨rfl,⟨S0,a0,b0,c0,Z,HX.drewN _⟩,amS (.inl rfl)⟩
def mI(a b:Int):Int:=if a<b then -1 else if b<a then 1 else 0
theorem aAE(a:Int)(w:Y):aF aa 65 #[a] w λe w'=>e=aI X/\w=w':=by go_enter func65,ntmps65;go_wp2_with fail;go_ret;exact⟨aG,rfl⟩
theorem aeD(h:R:=by go_enter func23,ntmps23;go_wp2_with(refine(aAE _ _).mono ?_;rintro e w1 ⟨rfl,rfl⟩;dsimp only);go_ret;exact⟨ic,rfl⟩):R:=h
theorem aeE(a b:Int)(w:Y):aF aa 23 #[a,b] w λe w'=>e=aI (C D (mI a b))/\w=w':=by
 have HL:af (a<b->mI a b= -1):=λh=>by unfold mI;rw[if_pos h]
 have HG:af (b<a->mI a b=1):=λh=>by unfold mI;rw[if_neg I,if_pos h]
 have HE:af (¬a<b->¬b<a->mI a b=0):=λh h'=>by unfold mI;rw[if_neg h,if_neg h']
 generalize mI a b=r at*;by_cases h1:a<b;·have F:=G (HL h1);exact aeD
 by_cases h2:b<a;·have F:=G (HG h2);exact aeD
 have F:=G (HE h1 h2);exact aeD
def Jj(a b:Int):Int:=if a=0 then b else a
theorem aAF(a b:Int)(g c:Nat)(w:Y)(h0:w.cell? ⟨g,0,J⟩=N (C D a))(h1:w.cell? ⟨g,1,J⟩=N (C D b)):aF aa 22 #[O g 2 c] w λe w'=>e=aI (C D (Jj a b))/\w'=w:=by
 have HC:af (∀k:Nat,k<2->w.cell? ⟨g,k,J⟩=N (C D (if k=0 then a else b))):=λk hk=>by
  have qF:k=0\/k=1:=I;rcases qF with rfl|rfl;·exact h0
  exact h1
 clear h0 h1;go_enter func22,ntmps22;go_wp2_with fail;go_loopw [8] (λi wr=>wr=w/\∃k:Nat,k<=2/\i=C D k/\(1<=k->a=0)/\(2<=k->b=0)) (λi _=>2-(intOf i).toNat);case atStart=>exact⟨rfl,0,I,rfl,λh=>absurd h I,λh=>absurd h I⟩
 obtain⟨rfl,k,hk,rfl,ha,hb⟩:=hrel;have HA:=G ha;have HB:=G hb;clear ha hb;have qF:k=0\/k=1\/k=2:=I;rcases qF with rfl|rfl|rfl
 ·have c0:wr.cell? ⟨g,0,J⟩=N (C D a):=HC 0 I;cases hq:a==0
  ·have aY:a≠0:=by simpa using hq
   have F:af (Jj a b=a):=by show _=_;unfold Jj;rw[if_neg aY]
   clear aY;go_wp2_with fail;go_ret;exact⟨ic,rfl⟩
  have hz:af (a=0):=by show _=_;simpa using hq
  go_wp2_with fail;exact⟨⟨trivial,1,I,KO,λ_=>hz,λh=>absurd h I⟩,Fb⟩
 ·have c1:wr.cell? ⟨g,1,J⟩=N (C D b):=HC 1 I;have F:af (Jj a b=b):=by show _=_;unfold Jj;rw[if_pos (HA.E I)]
  cases hq:b==0;·go_wp2_with fail;go_ret;exact⟨ic,rfl⟩
  have hz:af (b=0):=by show _=_;simpa using hq
  go_wp2_with fail;exact⟨⟨trivial,2,I,KO,λ_=>HA I,λ_=>hz⟩,Fb⟩
 have F:af (Jj a b=0):=by show _=_;unfold Jj;rw[if_pos (HA.E I),HB.E I]
 go_wp2_with fail;go_ret;exact⟨ic,rfl⟩
theorem aAG(A:Option aK)(n c:Nat)(S:ByteArray)(a b:Int)(w:Y):aF aa 286 #[O A n c,.string S,a,b] w λe w'=>e=aI (.func (.func 305) #[] #[aQ w,aQ (N ⟨w.heap.size+1,0,J⟩),aQ (N ⟨w.heap.size+1+1,0,J⟩),aQ (N ⟨w.heap.size+1+1+1,0,J⟩)])/\w'=(((w.alloc (ag #[O A n c] 31)).alloc (ag #[.string S] 9)).alloc (ag #[a] 3)).alloc (ag #[b] 3):=by go_enter func286,ntmps286;go_wp2_with fail;go_ret;exact⟨rfl,rfl⟩
section
open Go.ChangeMaps
open Go.Shelf
attribute [local go_sem] Oper.semAt_some
def Ky(x:iM):ak:=aD #[x.cur,x.kind,x.date,x.num]
theorem Q9(ad:aK)(j:Nat):(ad.add j).block=ad.block:=by unfold Addr.add;split<;>rfl
structure kS(q:Option Nat)(n0:Nat)(W W':Y):Prop where
 size:W.heap.size<=W'.heap.size
 block:∀k,k<n0->N k≠q->W'.heap[k]?=W.heap[k]?
theorem kS.refl(q:Option Nat)(n0:Nat)(W:Y):kS q n0 W W:=⟨aC _,λ_ _ _=>rfl⟩
theorem kS.trans{q:Option Nat}{A B jN:Y}(h:kS q n0 A B)(k:kS q n0 B jN):kS q n0 A jN:=⟨ja h.size k.size,λi hi hq=>(k.block i hi hq).trans (h.block i hi hq)⟩
theorem kS.of_below{q:Option Nat}{A B:Y}(h:aj n A B)(hn:n0<=n):kS q n0 A B:=⟨h.size,λi hi _=>h.block i I⟩
theorem kS.amU{q:Option Nat}{A B:Y}(h:A.grownBy B q)(hn:n0<=A.heap.size):kS q n0 A B:=⟨h.size,λi hi hq=>h.block i I hq⟩
theorem kS.putObj{q:Option Nat}(W:Y)(l:Nat)(o':Obj)(hl:n0<=l):kS q n0 W (W.putObj l o'):=⟨aG,λi hi _=>World.putObj_heap_other (λe=>by omega)⟩
theorem kS.cell{q:Option Nat}{A B:Y}(h:kS q n0 A B){p:aK}(hp:p.block<n0)(hq:N p.block≠q):B.cell? p=A.cell? p:=by simp only[M6,h.block p.block hp hq]
theorem amV(h:R:=by refine⟨hr.1,λhp=>?_⟩;obtain⟨ad,rfl,hb,hc⟩:=hr.2 hp;exact⟨ad,rfl,hb,λj u hu=>(h.cell (p:=ad.add j) (by rw[Q9];omega) (by rw[Q9];exact hA hp ad rfl)).trans (hc j u hu)⟩):R:=h
theorem kS.aAH{q:Option Nat}{m:Nat}{rs:List iM}(h:kS q n0 W W')(hr:Reads W B 4 A m (rs.flatMap pR))(hB:B<=n0)(hA:0<m->∀ad,A=N ad->N ad.block≠q):Reads W' B 4 A m (rs.flatMap pR):=by exact amV
theorem aa3(h:R:=by
  gi_wp2_with fail;refine⟨(by intro _ h;cases h),?_⟩;gi_wp2_with fail;go_roundw;case rel=>exact⟨i+1,ss,bR,I,I,HJ2,kW⟩
  case measure=>simp[intOf];omega):R:=h
theorem aAI(n:Nat)(hn:1<=n)(l:Nat)(q:Option Nat)(n0 p0 p1 p2 p3:Nat)(A:Option aK)(m c:Nat)(rs:List iM)(S:ByteArray)(a b:Int)(B:Nat)(kC Jx:List iM->Y->Prop)
  (hY:∀pre x W,kC pre W->pre.length<m->YieldAt QL (n-1) aa l #[Ky x] W λe W'=>
   (e=aI Z/\kC (pre++ [x]) W'/\kS q n0 W W')\/(e=aI X/\Jx (pre++ [x]) W'))
  (W:Y) (hJ:AbidesFrom W kC) (rf:n0<=W.heap.size) (l0:p0<n0) (l1:p1<n0) (l2:p2<n0) (l3:p3<n0) (q0:N p0≠q) (q1:N p1≠q) (q2:N p2≠q) (q3:N p3≠q)
  (x0:W.cell? ⟨p0,0,J⟩=N (O A m c)) (x1:W.cell? ⟨p1,0,J⟩=N (.string S)) (x2:W.cell? ⟨p2,0,J⟩=N (C D a)) (x3:W.cell? ⟨p3,0,J⟩=N (C D b))
  (hr:Cv W B A m c rs) (hB:B<=n0) (hA:0<m->∀ad,A=N ad->N ad.block≠q) (h0:kC [] W):
  CallsIn QL n aa 305 #[.func (.yield l) #[] #[],aQ p0,aQ p1,aQ p2,aQ p3] W λe W'=>(∃v,e=aI v)/\
   ((∃ss:List iM,ss.length<=m/\kC ss W')\/(∃pre:List iM,True/\Jx pre W')):=by
 have hm:=hr.le
 have HR:=G hr.rd
 have HY:=G hY
 clear hr hY
 refine callsIn_of_wp func305 rfl trivial ?_ rfl
 simp only[ntmps305,AX,iP,pV,Nat.reduceAdd,Nat.reduceSub,Array.replicate_succ,Array.replicate_zero,List.push_toArray,List.append_toArray,wF,o6]
 gi_wp2_with fail
 gi_loopw [10] (λiv wr=>∃(i:Nat) (ss:List iM),iv=C D i/\i<=m/\ss.length<=i/\kC ss wr/\kS q n0 W wr) (λiv _=>m-(intOf iv).toNat)
 case atStart=>exact⟨0,[],rfl,I,aG,h0,kS.refl _ _ _⟩
 obtain⟨i,ss,rfl,hi,hss,hJs,hk⟩:=hrel
 obtain⟨wo,rfl⟩:=dz wr
 have bV:=hk.size
 by_cases aO:i<m
 ·obtain⟨ad,rfl,dU,c0,c1,c2,c3⟩:=(hk.aAH HR hB hA).aaV aO
  generalize rs.getD i ay=x at*
  have y1:=(hk.cell (p:=⟨p1,0,J⟩) l1 q1).trans x1
  have y2:=(hk.cell (p:=⟨p2,0,J⟩) l2 q2).trans x2
  have y3:=(hk.cell (p:=⟨p3,0,J⟩) l3 q3).trans x3
  have ed:p1<wo.heap.size:=I
  have fw:p2<wo.heap.size:=I
  have fM:p3<wo.heap.size:=I
  have hbA:aj wo wo (wo.alloc (ag #[x.cur,x.kind,x.date,x.num] 234)):=(aN _ _).alloc (aC _) _
  have kW:=G (hk.trans (kS.of_below hbA I))
  have HJ2:af (kC ss (wo.alloc (ag #[x.cur,x.kind,x.date,x.num] 234))):=hJ ss wo _ J hJs (World.grownBy_alloc wo _ J) (λr e=>by cases e)
  have HYX:=G (HY ss x _ HJ2 I)
  clear hbA hJs hk x0 x1 x2 x3 rf
  unfold Ky at HYX
  obtain⟨cu,ki,da,nu⟩:=x
  simp only[] at c0 c1 c2 c3 HYX kW HJ2
  generalize(⟨cu.toArray⟩:ByteArray)=CU at*
  cases e1:CU.toList==S.toList
  ·exact aa3
  cases e2:ki==1
  ·exact aa3
  cases e3:decide (a<=da)
  ·exact aa3
  cases e4:decide (da<=b)
  ·exact aa3
  obtain⟨fn,tmps,assign,body,hy,hR⟩:=HYX
  gi_wp2_with fail
  refine hR.mono ?_
  rintro e W3 (⟨rfl,hJ3,kV⟩|⟨rfl,hJx3⟩)
  ·gi_wp2_with fail
   go_roundw
   case rel=>exact⟨i+1,ss++ [_],bR,I,G5,hJ3,kW.trans kV⟩
   simp[intOf];omega
  gi_wp2_with fail
  refine eX (results_none rfl _ _ _) rfl ?_
  exact⟨⟨_,rfl⟩,.inr ⟨_,trivial,hJx3⟩⟩
 obtain rfl:i=m:=by omega
 gi_wp2_with fail
 go_end0
 exact⟨⟨_,rfl⟩,.inl ⟨ss,hss,hJs⟩⟩
end
section
open Go.ChangeMaps
open Go.Shelf
attribute [local go_sem] Oper.semAt_some
theorem aAJ:(aa.info? 234).map (λi=>(i.zero,i.size,i.bytes))=N (N (aD #[au ⟨#[]⟩,C D 0,C D 0,C D 0]),4,40):=by kernel_rfl
theorem aAK(W:Y)(x:iM)(t:bM):∀j u,(pR x)[j]?=N u->(W.alloc (ag #[x.cur,x.kind,x.date,x.num] t)).cell? ((⟨W,0,J⟩:aK).add j)=N u:=by intro j u hj;have h:=(ai.new W t #[x.cur,x.kind,x.date,x.num]).cell j;have e:(⟨W,0,J⟩:aK).add j=⟨W,j,J⟩:=YI;rw[e,h,<-hj];unfold pR;rw[iH]
structure Yc(w:Y)(B:Nat)(A:Option aK)(m c:Nat)(rs:List iM)(p0 p1 p2 p3:Nat):Prop where
 l0:p0<w.heap.size
 l1:p1<w.heap.size
 l2:p2<w.heap.size
 l3:p3<w.heap.size
 x0:w.cell? ⟨p0,0,J⟩=N (O A m c)
 x1:∃S,w.cell? ⟨p1,0,J⟩=N (.string S)
 x2:∃a,w.cell? ⟨p2,0,J⟩=N (C D a)
 x3:∃b,w.cell? ⟨p3,0,J⟩=N (C D b)
 rt:Cv w B A m c rs
 hB:B<=w.heap.size
theorem amW(n:Nat)(hn:1<=n)(q:Option Nat)(B:Nat)(A:Option aK)(m c:Nat)(rs:List iM)(p0 p1 p2 p3:Nat)(w:Y)(h:Yc w B A m c rs p0 p1 p2 p3)(q0:N p0≠q)(q1:N p1≠q)(q2:N p2≠q)(q3:N p3≠q)(hA:0<m->∀ad,A=N ad->N ad.block≠q):
  SeqStopsK QL n aa 305 #[aQ p0,aQ p1,aQ p2,aQ p3] (λx:iM=>#[Ky x]) (kS q w) (λss=>ss.length<=m) (λ_=>True) m w:=λl kC Jx W hW hJ _ hY h0=>by obtain⟨S,x1⟩:=h.x1;obtain⟨a,x2⟩:=h.x2;obtain⟨b,x3⟩:=h.x3;exact aAI n hn l q w p0 p1 p2 p3 A m c rs S a b B kC Jx hY W hJ hW.size h.l0 h.l1 h.l2 h.l3 q0 q1 q2 q3 ((hW.cell (p:=⟨p0,0,J⟩) h.l0).trans h.x0) ((hW.cell (p:=⟨p1,0,J⟩) h.l1).trans x1) ((hW.cell (p:=⟨p2,0,J⟩) h.l2).trans x2) ((hW.cell (p:=⟨p3,0,J⟩) h.l3).trans x3) (h.rt.low h.hB (aC _) hW) h.hB hA h0
theorem aAL(B:Nat)(A:Option aK)(m c:Nat)(rs:List iM)(p0 p1 p2 p3:Nat)(w:Y)(h:Yc w B A m c rs p0 p1 p2 p3):
  aF aa 309 #[O J 0 0,.func (.func 305) #[] #[aQ p0,aQ p1,aQ p2,aQ p3]] w λe w'=>∃(v:ak) (ss:List iM),e=aI v/\ss.length<=m/\w'.ownsRow w 234 4 v ss.length (ss.flatMap pR)/\aj w w w':=by
 obtain⟨i0,gz,fu,gq,fG⟩:=info_parts aAJ;have hm:=h.rt.le;have HS:=G (amW 4 I J B A m c rs p0 p1 p2 p3 w h aG aG aG aG aG);clear h;refine(callsIn_wide (n:=5)).1 ?_;refine callsIn_of_wp_marks func309 rfl trivial ?_ rfl;simp only[ntmps309,AX,iP,pV,Nat.reduceAdd,Nat.reduceSub,Array.replicate_succ,Array.replicate_zero,List.push_toArray,List.append_toArray,wF,o6];gi_wp2_with fail;obtain⟨w1,kg⟩:∃w1,w.alloc (ag #[O J 0 0] 31)=w1:=⟨_,rfl⟩;have bV:w1.heap.size=w.heap.size+1:=by rw[<-kg];simp
 have aB:aj w w w1:=by rw[<-kg];exact(aN _ w).alloc (aC _) _
 have o9:Boxed w1 w 31 (O J 0 0):=by rw[<-kg];exact Boxed.new _ _ _
 rw[kg];refine wpIn_rangeFunc_ownH (encs:=λx:iM=>#[Ky x]) rfl I (gf:=305) (lb:=#[aQ p0,aQ p1,aQ p2,aQ p3]) rfl trivial (enters_of func305 dh rfl)
  HS (λh k=>kS.trans h k) (λW l o o' hl _ _ _=>kS.putObj W l o' I) aB (λ_=>rfl)
  (λpre W=>(∃v,Boxed W w 31 v/\W.ownsRow w 234 4 v pre.length (pre.flatMap pR)/\True)/\aj w w W) (λ_ _ _=>False)
  (OwnFrom.and (Own.from (holdsRow_own w w 31 234 4 (λpre:List iM=>pre.length) (λpre=>pre.flatMap pR) (λ_ _=>True)) _) (ownFrom_below (aC _) I))
  (λc s W W' row h=>h.elim) ⟨⟨_,o9,ng _ _ _ _,trivial⟩,aB⟩
  (λx a' W=>∃Bx,w.heap.size<=Bx/\Bx≠w.heap.size/\W.heap[Bx]?=N (ag #[x.cur,x.kind,x.date,x.num] 234 (0,0))/\a'= {tmps:=#[O J 0 0,.func (.func 305) #[] #[aQ p0,aQ p1,aQ p2,aQ p3],aQ w,undef,O J 0 0,aQ Bx,.func (.func 305) #[] #[aQ p0,aQ p1,aQ p2,aQ p3],aD #[x.cur,x.kind,x.date,x.num],undef,undef,undef,undef,undef],defers:= []})
  (λx a' s W W' row h hg hr=>by
   obtain⟨Bx,h1,h2,h3,h4⟩:=h
   refine⟨Bx,h1,h2,(hg.block Bx (JQ.1 h3).1 (λe=>?_)).trans h3,h4⟩
   obtain⟨_,o,ho,hc⟩:=hr Bx e.symm
   rw[h3] at ho;cases ho;cases hc) ?assign ?body ?done ?stop
 case assign=>rintro l pre x W K ⟨⟨v,hv,iF,_⟩,hB⟩ hK;have hvl:=hv.lt;have hk:=World.alloc_heap_new W (ag #[x.cur,x.kind,x.date,x.num] 234);have iV:=KeepsOthers.alloc W (ag #[x.cur,x.kind,x.date,x.num] 234);have qW:aj W W (W.alloc (ag #[x.cur,x.kind,x.date,x.num] 234)):=(aN _ _).alloc (aC _) _;have hKF:=G (hK _ _ (iV.from _) (kS.of_below qW hB.size) ⟨⟨v,hv.alloc _,iF.alloc _,trivial⟩,hB.alloc hB.size _⟩ ⟨W.heap.size,I,I,hk,rfl⟩);clear hK hk iV qW iF hB hv;unfold Ky;gi_wp2_with fail;exact hKF
 case body=>rintro l pre x a' W _ ⟨r,hr⟩ ⟨⟨v,hv,iF,_⟩,hB⟩ ⟨Bx,_,_,Be,rfl⟩ aO;have dU:ai W Bx 234 #[x.cur,x.kind,x.date,x.num]:=Be;have c0:=dU.cell 0;have c1:=dU.cell 1;have c2:=dU.cell 2;have c3:=dU.cell 3;simp only[iH,iI,iX] at c0 c1 c2 c3;have hc:=hv.cell;have hs:=hB.size;have HB:=G hB;clear Be dU hr hB;gi_wp2_with (gi_at_builtin;refine wpListIn_append_own _ rfl _ _ 31 rfl w.heap.size 234 i0 _ 4 40 underlying31 gz fu gq fG rfl aL _ pre.length (pre.flatMap pR) rfl (iF.alloc _) ⟨W,0,J⟩ 1 1 (pR x) rfl rfl (aAK _ _ _) (by simp[pR,Value.oneCell']) lH I bB ?_;intro v' w3 hown' ES _;obtain⟨g',cap',rfl⟩:=ownsRow_succ hown';obtain⟨vD,o8,yX,qF,aJ⟩:=hv.appended aL iF hs (aC _) hown' ES;have hc1:=vD.cell;have hf1:=vD.frozen);refine⟨qF.from _,kS.of_below aJ (aC _),⟨_,o8,?_,trivial⟩,HB.trans aJ⟩;rw[eB,mf,List.flatMap_append,List.flatMap_singleton];exact yX
 case done=>rintro bf ss W hD pz ⟨⟨v,hv,iF,_⟩,hB⟩ hK;have hc:=hv.cell;have HR:=G (bI iF (bI hB hD));clear iF hB o9 aB;gi_wp2_with fail;refine⟨aG,.inl ⟨_,_,rfl,run_takeDeferred hK,?_⟩⟩;obtain⟨r1,r2,_⟩:=HR;exact⟨_,results_tmp rfl _ _ _,v,ss,rfl,pz,ownsRow_putObj r1 _ hK rfl,r2.trans (belowK_b (w:=w) (aC _) W bf _ _ I hK rfl rfl)⟩
 rintro bf c _ W _ _ h _;exact h.elim
theorem aAM(B:Nat)(A:Option aK)(m c:Nat)(rs:List iM)(p0 p1 p2 p3:Nat)(w:Y)(h:Yc w B A m c rs p0 p1 p2 p3):
  aF aa 303 #[.func (.func 305) #[] #[aQ p0,aQ p1,aQ p2,aQ p3]] w λe w'=>∃(v:ak) (ss:List iM),e=aI v/\ss.length<=m/\w'.ownsRow w 234 4 v ss.length (ss.flatMap pR)/\aj w w w':=by have HA:=G (aAL B A m c rs p0 p1 p2 p3 w h);clear h;go_enter func303,ntmps303;go_wp2_with fail;refine HA.mono ?_;rintro e w' ⟨v,ss,rfl,hd,hr,hb⟩;have HF:=G (bI hd (bI hr hb));clear hd hr hb;go_wp2_with fail;go_ret;exact⟨v,ss,rfl,HF.1,HF.2.1,HF.2.2⟩
end
end Go.Proofs.YtgnflmdpalmejaaGreatDoor
