/- Lemmas for the proof of WholeRules (the card is in the file ..WholeRulesCard); each lemma names its own conditions. -/
import Derived.Test.YtgnflmdpalmejaaGreatDoorA10
import Derived.Test.YtgnflmdpalmejaaGreatDoorA12
namespace Go.Proofs.YtgnflmdpalmejaaGreatDoor
open _root_.Array renaming getElem?_toList->OH,length_toList->Mx
open Bool renaming and_eq_true->bq,false->X,true->Z
open Go.Act renaming put->uB
open Go renaming Addr->aK,Calls->aF,TypeId->bM,Value->ak,World->Y,bodyPost_ret->eX,ownsRow_setCell_other->mO,wp_region_held_drew->iA
open Go.Ending renaming returned->aI
open Go.IntKind renaming i64->D
open Go.Obj renaming cells->ag
open Go.Region renaming ready->RJ,wanted->sZ
open Go.RowKit renaming Below->aj
open Go.Value renaming agg->aD,bool->ax,int->C,pointer->aQ,slice->O,string->au,tuple->bz
open Go.World renaming alloc->pJ,ownsRow_nil->ng,size_alloc->aW,size_setCell->wh
open Inhabited renaming default->ay
open List renaming all_eq_true->xD,foldl_cons->M8,getD->dO,getD_eq_getElem?_getD->Et,getElem?_cons_succ->iX,getElem?_cons_zero->iI,getElem?_eq_getElem->wu,getElem?_map->xy,getElem?_set_ne->Xf,getElem?_toArray->iH,getElem_cons_succ->uE,getElem_cons_zero->uD,getElem_mem->rF,getElem_toArray->uC,length_append->eB,length_cons->iP,length_map->oz,length_nil->pV,length_set->U0,length_singleton->mf,length_take->xq,map_append->oM,map_cons->kE,mem_append->pW,mem_cons->jZ,mem_cons_of_mem->F8,mem_cons_self->SL,mem_or_eq_of_mem_set->Sm,mem_singleton->lF,not_mem_nil->nJ,setIfInBounds_toArray->pY,set_cons_succ->oP,set_cons_zero->oh,take_length->Nb,take_succ_eq_append_getElem->sD
open List.cons renaming injEq->F6
open Nat renaming add_zero->mZ,le_refl->aC,le_trans->ja,lt_or_ge->jl,mul_zero->Oq
open Option renaming map_some->qh,none->J,some->N
open Option.some renaming injEq->kH
open Go.Proofs.Tryz renaming prog->aa
open Go.RowKit Go.Lib Go.Proofs.Tryz
set_option maxRecDepth 100000
set_option maxHeartbeats 32000000
set_option linter.unusedVariables false
set_option linter.unusedSimpArgs false
variable{A:Option aK}{B base c k n:Nat}{R:Prop}{W w:Y}{ps:List (Int × Int)}{v1 v2 v6:ak}{xs:List ak}
instance:Inhabited jh:=⟨⟨0,0,0,[]⟩⟩
theorem aBG(l:List (jh × ak)):OE l=l.flatMap λq=>XD q.1 q.2:=by unfold OE;rw[List.flatMap_def]
theorem aeM{l:List (jh × ak)}(h:Reads w B 5 A n (OE l))(hl:l.length=n)(hk:k<n):
  ∃ad,A=N ad/\ad.block<B/\w.cell? (ad.add (k*5))=N (C D 10)/\w.cell? ⟨(ad.add (k*5)).block,(ad.add (k*5)).off+1,J⟩=N (C D (l.getD k ay).1.bD)/\w.cell? ⟨(ad.add (k*5)).block,(ad.add (k*5)).off+2,J⟩=N (C D (l.getD k ay).1.gK)/\w.cell? ⟨(ad.add (k*5)).block,(ad.add (k*5)).off+3,J⟩=N (C D (l.getD k ay).1.rule)/\w.cell? ⟨(ad.add (k*5)).block,(ad.add (k*5)).off+4,J⟩=N (l.getD k ay).2:=by
 obtain⟨ad,rfl,hb,hc⟩:=h.2 I;rw[aBG] at hc;have hx:∀j,j<5->∀u,(XD (l.getD k ay).1 (l.getD k ay).2)[j]?=N u->w.cell? (ad.add (k*5+j))=N u:=by intro j hj u hu;refine hc _ _ ?_;rw[Gl (λq:jh × ak=>XD q.1 q.2) (λq=>rfl) I hj,hu]
 exact ac3
theorem aeN{l:List (Int × Int)}(h:Reads w B 2 A n (Bg l))(hl:l.length=n)(hk:k<n):
  ∃ad,A=N ad/\ad.block<B/\w.cell? (ad.add (k*2))=N (C D (l.getD k ay).1)/\w.cell? ⟨(ad.add (k*2)).block,(ad.add (k*2)).off+1,J⟩=N (C D (l.getD k ay).2):=by
 obtain⟨ad,rfl,hb,hc⟩:=h.2 I;rw[show Bg l=l.flatMap Xw by unfold Bg;rw[List.flatMap_def]] at hc;have hx:∀j,j<2->∀u,(Xw (l.getD k ay))[j]?=N u->w.cell? (ad.add (k*2+j))=N u:=by intro j hj u hu;refine hc _ _ ?_;rw[Gl Xw (λq=>rfl) I hj,hu]
 have g0:=hx 0 I _ rfl;have g1:=hx 1 I _ rfl;rw[<-mW,nS _ 1 I] at g1;exact⟨ad,rfl,hb,g0,g1⟩
theorem abe{S:Nat}{e:bM}{v:ak}(h:w.ownsRow base e S v n xs):n<=9223372036854775807:=by
 rcases h.2 with⟨_,h⟩|⟨g,cap,cur,_,_,_,h1,h2,_⟩;·omega
 simp only[maxLen] at h2;omega
theorem aBH(ps:List jh)(v1 v2:ak)(B1 B2:Nat)(w:Y)(h1:yV w B1 v1 ps)(h2:yV w B2 v2 ps):
  aF aa 14 #[v1,v2] w λe w'=>e=aI Z/\aj w w w':=by
 obtain⟨l1,e1,o1,q1⟩:=h1;obtain⟨l2,e2,o2,q2⟩:=h2;obtain⟨A1,c1,rfl⟩:=eO o1;obtain⟨A2,c2,rfl⟩:=eO o2;have n1:l1.length=ps.length:=by rw[<-e1,oz]
 have n2:l2.length=ps.length:=by rw[<-e2,oz]
 have BM:=abe o1;have R1:=G (Reads.uA o1);have R2:=G (Reads.uA o2);rw[n1] at R1 BM |-;rw[n2] at R2 |-;have TJ:af (∀k,k<ps.length->(l1.getD k ay).1=ps.getD k ay/\w.ownsRow B1 76 2 (l1.getD k ay).2 (ps.getD k ay).parts.length (Bg (ps.getD k ay).parts)):=λk hk=>by
  have hg:(l1.getD k ay).1=ps.getD k ay:=by rw[<-e1];simp[dO,show k<l1.length by omega]
  refine⟨hg,?_⟩;rw[<-hg];exact q1 _ afC
 have Sd:af (∀k,k<ps.length->(l2.getD k ay).1=ps.getD k ay/\w.ownsRow B2 76 2 (l2.getD k ay).2 (ps.getD k ay).parts.length (Bg (ps.getD k ay).parts)):=λk hk=>by
  have hg:(l2.getD k ay).1=ps.getD k ay:=by rw[<-e2];simp[dO,show k<l2.length by omega]
  refine⟨hg,?_⟩;rw[<-hg];exact q2 _ (by simp[dO,show k<l2.length by omega])
 have Li:=G n1;have Ui:=G n2;clear o1 o2 q1 q2 e1 e2 n1 n2;go_enter func14,ntmps14;go_wp2_with fail;go_loopw [5] (λiv wr=>∃k m:Nat,iv=C D k/\k<=ps.length/\wr=w.drewN m) (λiv _=>ps.length-(intOf iv).toNat);case atStart=>exact⟨0,0,rfl,I,rfl⟩
 obtain⟨k,m,rfl,hk,rfl⟩:=hrel;by_cases aO:k<ps.length
 ·have b3:(k:Int)<(ps.length:Int):=by omega
  obtain⟨a1,hA1,_,c10,c11,c12,c13,c14⟩:=aeM R1 Li aO;obtain⟨a2,kG,aJ,DJ,c21,Rc,c23,c24⟩:=aeM R2 Ui aO;obtain⟨g1,r1⟩:=TJ k aO;obtain⟨g2,r2⟩:=Sd k aO;rw[g1] at c11 c12 c13;rw[g2] at c21 Rc c23;generalize(l1.getD k ay).2=u1 at*;generalize(l2.getD k ay).2=u2 at*;clear g1 g2;generalize ps.getD k ay=p at*;obtain⟨p0,p1,p2,pp⟩:=p;simp only[] at c11 c12 c13 c21 Rc c23 r1 r2;have HM:af (∀i,i<pp.length->True):=λ_ _=>trivial;obtain⟨B1',d1,rfl⟩:=eO r1;obtain⟨B2',d2,rfl⟩:=eO r2;have P1:=G (Reads.uA r1);have P2:=G (Reads.uA r2);have hpm:=abe r1;clear r1 r2 HM;subst hA1;subst kG;go_wp2_with fail;go_quiet(fail);go_wp2_with fail;go_loopw [6] (λjv wr=>∃j m2:Nat,jv=C D j/\j<=pp.length/\wr=w.drewN m2) (λjv _=>pp.length-(intOf jv).toNat);case atStart=>exact⟨0,_,rfl,I,World.drewN_drewN _ _ _⟩
  obtain⟨j,m2,rfl,hj,rfl⟩:=hrel;by_cases vC:j<pp.length
  ·have b5:(j:Int)<(pp.length:Int):=by omega
   obtain⟨x1,o9,_,CL,Ht⟩:=aeN P1 rfl vC;obtain⟨x2,BH,_,e20,e21⟩:=aeN P2 rfl vC;subst o9;subst BH;generalize pp.getD j ay=y at*;obtain⟨y0,y1⟩:=y;simp only[] at CL Ht e20 e21;go_wp2_with fail;go_quiet(fail);go_wp2_with fail;exact⟨⟨j+1,_,bR,I,by first|rfl|exact World.drewN_drewN _ _ _⟩,bW⟩
  go_wp2_with fail;exact⟨⟨k+1,_,bR,I,rfl⟩,bW⟩
 go_wp2_with fail;go_ret;exact⟨rfl,EN (bQ _) _⟩
def vY:List bE:= [⟨1000,1,1,0⟩,⟨1010,1,1,1000⟩,⟨1100,1,1,1000⟩,⟨1200,1,1,1000⟩,⟨1300,1,3,0⟩,⟨1500,1,3,0⟩,⟨1600,1,3,0⟩,⟨1700,1,3,0⟩,⟨2000,2,1,0⟩,⟨2100,2,1,2000⟩,⟨3000,3,3,0⟩,⟨3100,3,3,0⟩,⟨3200,3,3,0⟩,⟨3300,3,3,0⟩,⟨3400,3,3,0⟩,⟨3500,3,3,0⟩,⟨4000,4,2,0⟩,⟨4100,4,2,4000⟩,⟨4500,4,2,0⟩,⟨4600,4,2,0⟩,⟨4700,4,2,0⟩,⟨5000,5,2,0⟩,⟨5100,5,2,0⟩,⟨5500,5,2,0⟩,⟨5600,5,2,0⟩,⟨5700,5,2,0⟩]
theorem aBI(w:Y)(cs:Array ak)(T:bM)(size n:Nat)(h:cs.size=n*size):Reads (w.alloc (ag cs T)) (w.heap.size+1) size (N ⟨w,0,J⟩) n cs.toList:=by refine⟨by rw[Mx,h],λ_=>⟨_,rfl,Nat.lt_succ_self _,λj u hu=>?_⟩⟩;have e:(⟨w,0,J⟩:aK).add j=⟨w,j,J⟩:=YI;rw[e,(ai.new w T cs).cell,<-OH,hu]
theorem anc(x:bE):∀v∈IE x,v.oneCell'=Z:=by intro u hu;unfold IE at hu;exact am2
theorem aeO(a b c d:Int)(w:Y):aF aa 105 #[a,b,c,d] w λe w'=>e=aI (aD #[a,b,c,d])/\aj w w w':=by go_enter func105,ntmps105;go_wp2_with fail;obtain⟨y0,y1,y2,y3⟩:=OJ (ai.new w 78 #[a,b,c,d]);refine eX (v:=aD #[a,b,c,d]) (by simp[results,results105,go_sem,y0,y1,y2,y3]) rfl ⟨rfl,bJ (bQ w) _⟩
theorem ane{wz w6:Y}{lb:Nat}{LT:bM}{L:Array ak}{l xs:List bE}{cs:Array ak}(ho:wz.ownsRow w 78 4 (O A l.length c) l.length (jS l))(hb:aj w w wz)(hl:ai wz lb LT L)(aY:(78:bM)≠LT)(h6:w6.ownsRow w 78 4 v6 (l.length+xs.length) (jS l++jS xs))(hg:(wz.alloc (ag cs 78)).grownBy w6 (O A l.length c).ownBlock):
  ∃A6 c6,v6=O A6 (l++xs).length c6/\w6.ownsRow w 78 4 (O A6 (l++xs).length c6) (l++xs).length (jS (l++xs))/\aj w w w6/\ai w6 lb LT L:=by obtain⟨A6,c6,rfl⟩:=eO h6;refine⟨A6,c6,by rw[eB],?_,(bJ hb (ag cs 78)).grown hg (by simp only[aW];have:=hb.size;omega) (λr e=>lJ ho r e),(hl.alloc (ag cs 78)).grown hg (λe=>iQ (ho.alloc (ag cs 78)) (hl.alloc (ag cs 78)) aY e.symm)⟩;rw[eB];unfold jS at h6 |-;rw[List.flatMap_append];exact h6
abbrev Ym(w:Y)(g:Nat)(L:Array ak)(T:bM)(s n:Nat)(ov iv:ak)(wr:Y):Prop:=
 ∃(k:Nat) (l:List bE) (A:Option aK) (c:Nat),ov=O A l.length c/\iv=C D k/\k<=n/\l=vY.take (s+k)/\wr.ownsRow w 78 4 (O A l.length c) l.length (jS l)/\aj w w wr/\ai wr g T L
theorem smR(h:R:=by simp only[Nat.reduceMul,Nat.reduceAdd,Oq,Nat.zero_add,iH,iI,iX] at y0 y1;go_wp2_with fail;refine(aeO _ _ _ _ _).mono ?_;rintro e wz ⟨rfl,eH⟩;have HOz:=G (own_below (by first|exact lU|exact lU.alloc _) eH);have HLz:=G (ai.below (by first|exact KC|exact KC.alloc _) eH (by first|omega|(simp only[aW];omega)));have Dz:=G (bS eH (by first|exact bA|exact bJ bA _));have hsz2:=Dz.size;clear eH y0 y1;go_wp2_with(at_builtin;go_loud (refine pX _ rfl _ _ _ rfl w.heap.size 78 i0 _ 4 32 underlying24 gz fu gq fG rfl I _ l.length (jS l) rfl (HOz.alloc (ag _ 78)) (wz.heap.size+1) (N ⟨wz,0,J⟩) 1 1 (IE ⟨_,_,_,_⟩) rfl (mX wz #[_,_,_,_] 78 4 rfl) (anc _) lH I bB ?_;intro v6 w6 dw bU iT;obtain⟨A6,c6,rfl,Yn,ME,hL6⟩:=ane (xs:= [⟨_,_,_,_⟩]) HOz Dz HLz aL dw bU;have qN:=G Yn;have eY:=G ME;have HL6:=G hL6;clear Yn ME hL6;clear dw bU iT));exact⟨⟨K,_,A6,c6,by rw[eB];rfl,by rw[hKK];first|rfl|go_num,I,by rw[HK.E,hKK];rfl,qN,eY,HL6⟩,Fb⟩):R:=h
theorem Yo(h:R:=by have BO:=hL.lt;obtain⟨K,hKK⟩:∃K,K=k+1:=⟨_,rfl⟩;clear hL;rcases(by omega:k=0\/k=1\/k=2\/k=3\/k=4\/k=5) with rfl|rfl|rfl|rfl|rfl|rfl;all_goals first|(exfalso;omega)|exact smR):R:=h
theorem aBJ(w:Y):aF aa 55 #[] w λe w'=>∃(A:Option aK) (n c:Nat),e=aI (O A n c)/\n=vY.length/\w'.ownsRow w 78 4 (O A n c) n (jS vY)/\aj w w w':=by
 obtain⟨i0,gz,fu,gq,fG⟩:=info_parts aeq;go_enter func55,ntmps55;go_wp2_with fail;have zQ:af ((w.alloc (ag #[C D 1000,C D 0,C D 1010,C D 1000,C D 1100,C D 1000,C D 1200,C D 1000] 222)).ownsRow w 78 4 (O J ([]:List bE).length 0) ([]:List bE).length (jS [])):=ng _ _ _ _;have aP:=G (bJ (bQ w) (ag #[C D 1000,C D 0,C D 1010,C D 1000,C D 1100,C D 1000,C D 1200,C D 1000] 222));have zb:=G (ai.new w 222 #[C D 1000,C D 0,C D 1010,C D 1000,C D 1100,C D 1000,C D 1200,C D 1000]);go_loopw [1,18] (λov iv wr=>Ym w w #[C D 1000,C D 0,C D 1010,C D 1000,C D 1100,C D 1000,C D 1200,C D 1000] 222 0 4 ov iv wr) (λ_ iv _=>4-(intOf iv).toNat);case atStart=>exact⟨0,[],J,0,rfl,rfl,I,rfl,zQ,aP,zb⟩
 obtain⟨k,l,A,c,rfl,rfl,hk,hl,aV,aH,hL⟩:=hrel;obtain⟨wo,rfl⟩:=dz wr;have HK:=G hl;have lU:=G aV;have bA:=G aH;have KC:=G hL;have En:l.length<=26:=UI;clear zQ aP zb;clear hl aV aH;by_cases aO:k<4;·have y0:=hL.cell (2*k);have y1:=hL.cell (2*k+1);exact Yo
 obtain rfl:k=4:=by omega
 rw[show((4:Nat):Int)=4 from rfl];go_wp2_with fail;have zQ:=G ((lU).alloc (ag #[C D 1300,C D 1500,C D 1600,C D 1700] 3));have aP:=G (bJ (bA) (ag #[C D 1300,C D 1500,C D 1600,C D 1700] 3));have zb:=G (ai.new wo 3 #[C D 1300,C D 1500,C D 1600,C D 1700]);go_loopw [1,33] (λov iv wr=>Ym w wo #[C D 1300,C D 1500,C D 1600,C D 1700] 3 4 4 ov iv wr) (λ_ iv _=>4-(intOf iv).toNat);case atStart=>exact⟨0,l,A,c,rfl,rfl,I,HK,zQ,aP,zb⟩
 obtain⟨k,l,A,c,rfl,rfl,hk,hl,aV,aH,hL⟩:=hrel;obtain⟨wo,rfl⟩:=dz wr;have HK:=G hl;have lU:=G aV;have bA:=G aH;have KC:=G hL;have En:l.length<=26:=UI;clear zQ aP zb;clear hl aV aH;by_cases aO:k<4;·have y0:=hL.cell k;have y1:=hL.cell k;exact Yo
 obtain rfl:k=4:=by omega
 rw[show((4:Nat):Int)=4 from rfl];go_wp2_with fail;refine(aeO _ _ _ _ _).mono ?_;rintro e wz ⟨rfl,eH⟩;have Dz:=G (bS eH bA);have HOz:=G (own_below lU eH);go_wp2_with fail;refine(aeO _ _ _ _ _).mono ?_;rintro e wy ⟨rfl,Bq⟩;have HBy:=G (bS Bq Dz);have HOy:=G (own_below HOz Bq);have HLy:=G ((KC.below eH KC.lt).below Bq (KC.below eH KC.lt).lt);have hsy:=HBy.size;clear eH Bq;go_wp2_with(at_builtin;go_loud (refine pX _ rfl _ _ _ rfl w.heap.size 78 i0 _ 4 32 underlying24 gz fu gq fG rfl I _ l.length (jS l) rfl (HOy.alloc (ag _ 78)) (wy.heap.size+1) (N ⟨wy,0,J⟩) 2 2 (jS [⟨2000,2,1,0⟩,⟨2100,2,1,2000⟩]) rfl (aBI wy #[C D 2000,C D 2,C D 1,C D 0,C D 2100,C D 2,C D 1,C D 2000] 78 4 2 rfl) (by intro u hu;simp only[jS,List.mem_flatMap] at hu;obtain⟨x,_,hx⟩:=hu;exact anc x u hx) lH I bB ?_;intro v6 w6 dw bU iT;obtain⟨A6,c6,rfl,Yn,ME,hL6⟩:=ane (xs:= [⟨2000,2,1,0⟩,⟨2100,2,1,2000⟩]) HOy HBy HLy aL dw bU;have qN:=G Yn;have eY:=G ME;have HL6:=G hL6;clear Yn ME hL6;clear dw bU iT));obtain⟨l2,qM⟩:∃l2,l++ [bE.mk 2000 2 1 0,bE.mk 2100 2 1 2000]=l2:=⟨_,rfl⟩;have kW:af (l2=vY.take (10+0)):=(show _=_ by rw[<-qM,HK.E];rfl);rw[qM] at qN;rw[show l.length+2=l2.length by rw[<-qM,eB];rfl];go_wp2_with fail;have zQ:=G ((qN).alloc (ag #[C D 3000,C D 3100,C D 3200,C D 3300,C D 3400,C D 3500] 3));have aP:=G (bJ (eY) (ag #[C D 3000,C D 3100,C D 3200,C D 3300,C D 3400,C D 3500] 3));have zb:=G (ai.new w6 3 #[C D 3000,C D 3100,C D 3200,C D 3300,C D 3400,C D 3500]);go_loopw [1,50] (λov iv wr=>Ym w w6 #[C D 3000,C D 3100,C D 3200,C D 3300,C D 3400,C D 3500] 3 10 6 ov iv wr) (λ_ iv _=>6-(intOf iv).toNat);case atStart=>exact⟨0,l2,A6,c6,rfl,rfl,I,kW,zQ,aP,zb⟩
 obtain⟨k,l,A,c,rfl,rfl,hk,hl,aV,aH,hL⟩:=hrel;obtain⟨wo,rfl⟩:=dz wr;have HK:=G hl;have lU:=G aV;have bA:=G aH;have KC:=G hL;have En:l.length<=26:=UI;clear zQ aP zb;clear hl aV aH;by_cases aO:k<6;·have y0:=hL.cell k;have y1:=hL.cell k;exact Yo
 obtain rfl:k=6:=by omega
 rw[show((6:Nat):Int)=6 from rfl];go_wp2_with fail;have zQ:=G ((lU).alloc (ag #[C D 4000,C D 0,C D 4100,C D 4000,C D 4500,C D 0,C D 4600,C D 0,C D 4700,C D 0] 222));have aP:=G (bJ (bA) (ag #[C D 4000,C D 0,C D 4100,C D 4000,C D 4500,C D 0,C D 4600,C D 0,C D 4700,C D 0] 222));have zb:=G (ai.new wo 222 #[C D 4000,C D 0,C D 4100,C D 4000,C D 4500,C D 0,C D 4600,C D 0,C D 4700,C D 0]);go_loopw [1,67] (λov iv wr=>Ym w wo #[C D 4000,C D 0,C D 4100,C D 4000,C D 4500,C D 0,C D 4600,C D 0,C D 4700,C D 0] 222 16 5 ov iv wr) (λ_ iv _=>5-(intOf iv).toNat);case atStart=>exact⟨0,l,A,c,rfl,rfl,I,HK,zQ,aP,zb⟩
 obtain⟨k,l,A,c,rfl,rfl,hk,hl,aV,aH,hL⟩:=hrel;obtain⟨wo,rfl⟩:=dz wr;have HK:=G hl;have lU:=G aV;have bA:=G aH;have KC:=G hL;have En:l.length<=26:=UI;clear zQ aP zb;clear hl aV aH;by_cases aO:k<5;·have y0:=hL.cell (2*k);have y1:=hL.cell (2*k+1);exact Yo
 obtain rfl:k=5:=by omega
 rw[show((5:Nat):Int)=5 from rfl];go_wp2_with fail;have zQ:=G ((lU).alloc (ag #[C D 5000,C D 5100,C D 5500,C D 5600,C D 5700] 3));have aP:=G (bJ (bA) (ag #[C D 5000,C D 5100,C D 5500,C D 5600,C D 5700] 3));have zb:=G (ai.new wo 3 #[C D 5000,C D 5100,C D 5500,C D 5600,C D 5700]);go_loopw [1,82] (λov iv wr=>Ym w wo #[C D 5000,C D 5100,C D 5500,C D 5600,C D 5700] 3 21 5 ov iv wr) (λ_ iv _=>5-(intOf iv).toNat);case atStart=>exact⟨0,l,A,c,rfl,rfl,I,HK,zQ,aP,zb⟩
 obtain⟨k,l,A,c,rfl,rfl,hk,hl,aV,aH,hL⟩:=hrel;obtain⟨wo,rfl⟩:=dz wr;have HK:=G hl;have lU:=G aV;have bA:=G aH;have KC:=G hL;have En:l.length<=26:=UI;clear zQ aP zb;clear hl aV aH;by_cases aO:k<5;·have y0:=hL.cell k;have y1:=hL.cell k;exact Yo
 obtain rfl:k=5:=by omega
 rw[show((5:Nat):Int)=5 from rfl];go_wp2_with fail;go_ret;obtain rfl:l=vY:=HK.trans rfl;exact⟨A,_,c,rfl,rfl,lU,bA⟩
def kA:Array ak:=#[C D 1,C D 1,C D 1,C D 1,C D 1,C D 2,C D 2,C D 3,C D 3,C D 4,C D 4,C D 4,C D 5,C D 5]
def lA:Array ak:=#[C D 1010,C D 1100,C D 1200,C D 1300,C D 1500,C D 2000,C D 2100,C D 3000,C D 3300,C D 4000,C D 4100,C D 4700,C D 5000,C D 5100]
theorem anf{a:Array ak}(h:a=kA\/a=lA)(k:Nat)(hk:k<14):∃z:Int,a[k]?=N (C D z):=by rcases h with rfl|rfl<;>(rcases(by omega:k=0\/k=1\/k=2\/k=3\/k=4\/k=5\/k=6\/k=7\/k=8\/k=9\/k=10\/k=11\/k=12\/k=13) with rfl|rfl|rfl|rfl|rfl|rfl|rfl|rfl|rfl|rfl|rfl|rfl|rfl|rfl)<;>exact⟨_,rfl⟩
structure Jl(w wr:Y)(eb kb lb k:Nat)(nm cu:ByteArray)(j:Bool)(A:Option aK)(n c:Nat)(A2:Option aK)(n2 c2:Nat):Prop where
 b:ai wr eb 161 #[.string nm,.string cu,O A n c,O A2 n2 c2,j]
 o:∃xs,wr.ownsRow w 78 4 (O A n c) n xs
 o2:∃xs,wr.ownsRow w 226 3 (O A2 n2 c2) n2 xs
 kt:ai wr kb 3 kA
 lt:ai wr lb 3 lA
 bl:aj w w wr
 le:n<=k/\n2<=k
 ge:w.heap.size<eb/\w.heap.size<wr.heap.size
 z:ai wr w 161 #[au ⟨#[]⟩,au ⟨#[]⟩,O J 0 0,O J 0 0,X]
theorem five{q:Nat}{T:bM}{v0 v3 v4:ak}(h:ai W q T #[v0,v1,v2,v3,v4]):W.cell? ⟨q,0,J⟩=N v0/\W.cell? ⟨q,1,J⟩=N v1/\W.cell? ⟨q,2,J⟩=N v2/\W.cell? ⟨q,3,J⟩=N v3/\W.cell? ⟨q,4,J⟩=N v4:=⟨h.cell 0,h.cell 1,h.cell 2,h.cell 3,h.cell 4⟩
section
variable{w wr w6:Y}{eb kb lb k:Nat}{nm cu:ByteArray}{j:Bool}{A:Option aK}{n c:Nat}{A2:Option aK}{n2 c2:Nat}
theorem Jl.acc(h:Jl w wr eb kb lb k nm cu j A n c A2 n2 c2){cs:Array ak}(h6:w6.ownsRow w 78 4 v6 (n+1) xs)(hg:(wr.alloc (ag cs 78)).grownBy w6 (O A n c).ownBlock)(hk:n+1<=k+1):
  ∃A6 c6,v6=O A6 (n+1) c6/\Jl w (w6.setCell ⟨eb,2,J⟩ (O A6 (n+1) c6)) eb kb lb (k+1) nm cu j A6 (n+1) c6 A2 n2 c2/\ai w6 eb 161 #[.string nm,.string cu,O A n c,O A2 n2 c2,j]:=by obtain⟨A6,c6,rfl⟩:=eO h6;obtain⟨xs0,ho⟩:=h.o;obtain⟨ys0,nT⟩:=h.o2;have Jm:=ho.alloc (ag cs 78);have jB:=h.b.alloc (ag cs 78);have dJ:=jB.grown hg (λe=>iQ Jm jB aL e.symm);have hka:=h.kt.alloc (ag cs 78);have uM:=h.lt.alloc (ag cs 78);have KD:=hka.grown hg (λe=>iQ Jm hka aL e.symm);have KZ:=uM.grown hg (λe=>iQ Jm uM aL e.symm);have hne2:(O A2 n2 c2).ownBlock=J\/(O A2 n2 c2).ownBlock≠(O A n c).ownBlock:=aa2 (nT.alloc (ag cs 78)) Jm aL;have ang:=(nT.alloc (ag cs 78)).kept hg hne2;have ME:=(bJ h.bl (ag cs 78)).grown hg afn (λr e=>lJ ho r e);have hza:=h.z.alloc (ag cs 78);have hz6:=hza.grown hg (λe=>iQ Jm hza aL e.symm);have hs:=hg.size;simp only[aW] at hs;refine⟨A6,c6,rfl,⟨by simpa using dJ.bL 2 (O A6 (n+1) c6),⟨_,mO h6 (a:=⟨eb,2,J⟩) (λe=>iQ h6 dJ aL e) _⟩,⟨_,mO ang (a:=⟨eb,2,J⟩) (λe=>iQ ang dJ aL e) _⟩,KD.far (p:=⟨eb,2,J⟩) (KD.OZ dJ aL) _,KZ.far (p:=⟨eb,2,J⟩) (KZ.OZ dJ aL) _,ME.setCell (p:=⟨eb,2,J⟩) (Nat.le_of_lt h.ge.1) _,⟨I,by have:=h.le.2;omega⟩,⟨h.ge.1,afy⟩,hz6.far (p:=⟨eb,2,J⟩) (Nat.ne_of_lt h.ge.1) _⟩,dJ⟩
theorem Jl.lnk(h:Jl w wr eb kb lb (k+1) nm cu j A n c A2 n2 c2){cs:Array ak}(h6:w6.ownsRow w 226 3 v6 (n2+1) xs)(hg:(wr.alloc (ag cs 226)).grownBy w6 (O A2 n2 c2).ownBlock)(hk:n2+1<=k+1):
  ∃A6 c6,v6=O A6 (n2+1) c6/\Jl w (w6.setCell ⟨eb,3,J⟩ (O A6 (n2+1) c6)) eb kb lb (k+1) nm cu j A n c A6 (n2+1) c6/\ai w6 lb 3 lA/\ai w6 eb 161 #[.string nm,.string cu,O A n c,O A2 n2 c2,j]:=by obtain⟨A6,c6,rfl⟩:=eO h6;obtain⟨xs0,ho⟩:=h.o;obtain⟨ys0,nT⟩:=h.o2;have Jm:=nT.alloc (ag cs 226);have jB:=h.b.alloc (ag cs 226);have dJ:=jB.grown hg (λe=>iQ Jm jB aL e.symm);have hka:=h.kt.alloc (ag cs 226);have uM:=h.lt.alloc (ag cs 226);have KD:=hka.grown hg (λe=>iQ Jm hka aL e.symm);have KZ:=uM.grown hg (λe=>iQ Jm uM aL e.symm);have rW:=(ho.alloc (ag cs 226)).kept hg (aa2 (ho.alloc (ag cs 226)) Jm aL);have ME:=(bJ h.bl (ag cs 226)).grown hg afn (λr e=>lJ nT r e);have hza:=h.z.alloc (ag cs 226);have hz6:=hza.grown hg (λe=>iQ Jm hza aL e.symm);have hs:=hg.size;simp only[aW] at hs;refine⟨A6,c6,rfl,⟨by simpa using dJ.bL 3 (O A6 (n2+1) c6),⟨_,mO rW (a:=⟨eb,3,J⟩) (λe=>iQ rW dJ aL e) _⟩,⟨_,mO h6 (a:=⟨eb,3,J⟩) (λe=>iQ h6 dJ aL e) _⟩,KD.far (p:=⟨eb,3,J⟩) (KD.OZ dJ aL) _,KZ.far (p:=⟨eb,3,J⟩) (KZ.OZ dJ aL) _,ME.setCell (p:=⟨eb,3,J⟩) (Nat.le_of_lt h.ge.1) _,⟨by have:=h.le.1;omega,I⟩,⟨h.ge.1,afy⟩,hz6.far (p:=⟨eb,3,J⟩) (Nat.ne_of_lt h.ge.1) _⟩,KZ,dJ⟩
theorem Jl.drew(h:Jl w wr eb kb lb k nm cu j A n c A2 n2 c2):Jl w wr.drew eb kb lb k nm cu j A n c A2 n2 c2:=⟨h.b.drew,h.o,h.o2,h.kt.drew,h.lt.drew,kD h.bl,h.le,h.ge,h.z.drew⟩
end
theorem aBK(nm cu:ByteArray)(j:Bool)(w:Y):aF aa 56 #[.string nm,.string cu,j] w λe w'=>(∃A n c A2 n2 c2,e=aI (aD #[.string nm,.string cu,O A n c,O A2 n2 c2,j]))/\aj w w w':=by
 obtain⟨ia,hia,ha0,wY,ha2⟩:=info_parts aeq;obtain⟨il,rP,hl0,xx,qM⟩:=info_parts amE;go_enter func56,ntmps56;go_wp2_with fail;have H0:af (Jl w ((((w.alloc (ag #[au ⟨#[]⟩,au ⟨#[]⟩,O J 0 0,O J 0 0,X] 161)).alloc (ag #[.string nm,.string cu,O J 0 0,O J 0 0,j] 161)).alloc (ag kA 3)).alloc (ag lA 3)) (w.heap.size+1) (w.heap.size+1+1) (w.heap.size+1+1+1) 0 nm cu j J 0 0 J 0 0):= {
  b:=by
   have:=((ai.new (w.alloc (ag #[au ⟨#[]⟩,au ⟨#[]⟩,O J 0 0,O J 0 0,X] 161)) 161 #[.string nm,.string cu,O J 0 0,O J 0 0,j]).alloc (ag kA 3)).alloc (ag lA 3)
   rwa [aW] at this
  o:=⟨[],ng _ _ _ _⟩
  o2:=⟨[],ng _ _ _ _⟩
  kt:=by
   have:=(ai.new ((w.alloc (ag #[au ⟨#[]⟩,au ⟨#[]⟩,O J 0 0,O J 0 0,X] 161)).alloc (ag #[.string nm,.string cu,O J 0 0,O J 0 0,j] 161)) 3 kA).alloc (ag lA 3)
   rwa [aW,aW] at this
  lt:=by
   have:=ai.new (((w.alloc (ag #[au ⟨#[]⟩,au ⟨#[]⟩,O J 0 0,O J 0 0,X] 161)).alloc (ag #[.string nm,.string cu,O J 0 0,O J 0 0,j] 161)).alloc (ag kA 3)) 3 lA
   rwa [aW,aW,aW] at this
  bl:=bJ (bJ (bJ (bJ (bQ w) _) _) _) _
  le:=⟨aC _,aC _⟩
  ge:=⟨I,bB⟩
  z:=(((ai.new w 161 #[au ⟨#[]⟩,au ⟨#[]⟩,O J 0 0,O J 0 0,X]).alloc _).alloc _).alloc _}
 unfold kA lA at H0;go_loopw [21] (λiv wr=>∃(k:Nat) (A:Option aK) (n c:Nat) (A2:Option aK) (n2 c2:Nat),iv=C D k/\k<=14/\Jl w wr (w.heap.size+1) (w.heap.size+1+1) (w.heap.size+1+1+1) k nm cu j A n c A2 n2 c2) (λiv _=>14-(intOf iv).toNat);case atStart=>exact⟨0,J,0,0,J,0,0,rfl,I,H0⟩
 clear H0;obtain⟨k,A,n,c,A2,n2,c2,rfl,hk,hE⟩:=hrel;obtain⟨wo,rfl⟩:=dz wr;have HE:=G hE;obtain⟨b0,b1,b2,b3,b4⟩:=five hE.b;have fO:=hE.le;have DR:=hE.ge;clear hE;by_cases aO:k<14
 ·have k4:(k:Int)<14:=by omega
  obtain⟨z1,gq⟩:=anf (.inl rfl) k aO;obtain⟨z2,fG⟩:=anf (.inr rfl) k aO;have y1:wo.cell? ⟨w.heap.size+1+1,k,J⟩=N (C D z1):=(HE.kt.cell k).trans gq;have dA:=HE.kt.lt;obtain⟨xs,ho⟩:=HE.o;have HO:=G ho;have jg:=G (λa b c d:Int=>mX wo #[a,b,c,d] 78 4 rfl);clear ho gq;go_wp2_with(at_builtin;go_loud (refine pX _ rfl (.tmp 30) (.tmp 34) _ rfl w.heap.size 78 ia _ 4 32 underlying24 hia ha0 wY ha2 rfl I _ n xs rfl (HO.alloc _) (wo.heap.size+1) (N ⟨wo,0,J⟩) 1 1 _ rfl (jg _ _ _ _) rZ lH I bB ?_;intro v6 w6 dw bU iT;obtain⟨A6,c6,rfl,hE6,dJ⟩:=HE.acc dw bU I;have Gs:=G hE6;obtain⟨b0,b1,b2,b3,b4⟩:=five dJ;have iB:=dJ.frozen;clear hE6 dJ dw bU iT));generalize w6.setCell ⟨w.heap.size+1,2,J⟩ _=W1 at*;clear b0 b1 b2 b3 b4 iB y1 HE jg HO;obtain⟨b0,b1,b2,b3,b4⟩:=five Gs.b;have y2:W1.cell? ⟨w.heap.size+1+1+1,k,J⟩=N (C D z2):=(Gs.lt.cell k).trans fG;obtain⟨ys,nT⟩:=Gs.o2;have iW:=G nT;have HS:af (∀o,(W1.alloc o).cell? ⟨w.heap.size+1+1+1,k,J⟩=N (C D z2)):=λo=>((Gs.lt.alloc o).cell k).trans fG;have aDH:=Gs.le;have aDI:=Gs.b.lt;have jg:=G (λa b c:Int=>mX W1 #[a,b,c] 226 3 rfl);clear nT b0 b1 b2 b4;refine iA (S:=λy=>y.cell? ⟨w.heap.size+1+1+1,k,J⟩=N (C D z2)) dh y2 (λbg=>?_);refine aA 0 ?_;refine aA 2 ?_;refine aA 3 ?_;refine aA 4 ?_;refine aA 5 ?_;refine aA 6 ?_;refine aA 7 ?_;refine uF 1 8 (λK hK=>?_) (λK hK=>?_);focus
   go_simp;refine bF hK bg (λ_=>?_);clear hK K;refine bK 8 (λK hK=>?_);go_simp;refine bF hK (HS _) (λ_=>?_);clear hK K
  rotate_left;focus
   go_simp;refine bF hK (HS _) (λ_=>?_);clear hK K;refine bK 1 (λK hK=>?_);go_simp;refine bF hK (HS _) (λ_=>?_);clear hK K
  all_goals
   refine bK 9 (λK hK=>?_);refine(if_pos rfl).mpr ?_;refine Y7 _ (.tmp 38) (.tmp 45) 159 rfl w.heap.size 226 il _ 3 24 underlying159 rP hl0 xx qM rfl I _ n2 ys rfl (iW.alloc _) (W1.heap.size+1) (N ⟨W1,0,J⟩) 1 1 _ rfl (jg _ _ _) rZ lH I (by show _<=(W1.alloc _).heap.size;simp only[aW];omega) ?_;intro v7 w7 Kn EK _;obtain⟨A7,c7,rfl,hE7,fF⟩:=(Gs.drew).lnk Kn EK I;have Gt:=G hE7;have l7:=(G ((fF.1.cell k).trans fG));obtain⟨x0,x1,x2,x3,x4⟩:=five fF.2;have anh:=fF.2.frozen;clear hE7 fF Kn EK;refine bF hK l7 (λ_=>?_);clear hK K l7 bg;refine aA 10 ?_;refine bK 11 (λK hK=>?_);go_simp;refine bF hK ((Gt.lt.cell k).trans fG) (λ_=>?_);clear hK K x0 x1 x2 x3 x4 anh;refine gI ?_;go_wp2_with fail;exact⟨⟨k+1,A6,n+1,c6,A7,n2+1,c7,bR,I,Gt⟩,bW⟩
 obtain rfl:k=14:=by omega
 have hz:=HE.z;obtain⟨y0,y1,y2,y3,y4⟩:=five hz;have hfy:=hz.frozen;go_wp2_with fail;have hy:=((((hz.bL 0 (.string nm)).bL 1 (.string cu)).bL 2 (O A n c)).bL 3 (O A2 n2 c2)).bL 4 (ax j);simp only[pY,oh,oP] at hy;obtain⟨x0,x1,x2,x3,x4⟩:=five hy;refine eX (v:=aD #[.string nm,.string cu,O A n c,O A2 n2 c2,j]) (by simp[results,results56,go_sem,x0,x1,x2,x3,x4]) rfl ⟨⟨_,_,_,_,_,_,rfl⟩,((((HE.bl.setCell (p:=⟨w,0,J⟩) (aC _) _).setCell (p:=⟨w,1,J⟩) (aC _) _).setCell (p:=⟨w,2,J⟩) (aC _) _).setCell (p:=⟨w,3,J⟩) (aC _) _).setCell (p:=⟨w,4,J⟩) (aC _) _⟩
theorem aBL(w:Y):aF aa 16 #[] w λe w'=>∃(A:Option aK) (n c:Nat) (cs:Array ak),e=aI (aD cs)/\cs.size=21/\cs[4]?=N (O A n c)/\n=vY.length/\w'.ownsRow w 78 4 (O A n c) n (jS vY)/\aj w w w':=by
 go_enter func16,ntmps16;go_wp2_with fail;have aP:=G (ai.new w 29 #[au ⟨#[]⟩,C D 0,C D 0,C D 0,O J 0 0,C D 0,C D 0,C D 0,C D 0,C D 0,C D 0,C D 0,C D 0,C D 0,C D 0,C D 0,C D 0,C D 0,C D 0,C D 0,O J 0 0]);have zb:=G (bJ (bQ w) (ag #[au ⟨#[]⟩,C D 0,C D 0,C D 0,O J 0 0,C D 0,C D 0,C D 0,C D 0,C D 0,C D 0,C D 0,C D 0,C D 0,C D 0,C D 0,C D 0,C D 0,C D 0,C D 0,O J 0 0] 29));have lY:=zb.size;generalize pJ w _=w0 at*;refine(aBJ _).mono ?_;rintro e w1 ⟨A,n,c,rfl,rfl,ho,aB⟩;have kK:=G (aBK);have ni:=G ho;have aM:=G (aP.below aB aP.lt);have qR:=G (bS aB zb);clear ho aB aP zb;go_wp2_with fail;refine(kK _ _ _ w1).mono ?_;rintro e w2 ⟨⟨A2,n2,c2,B2,m2,d2,rfl⟩,aJ⟩;have iW:=G (own_below ni aJ);have aS:=G (aM.below aJ aM.lt);have xK:=G (bS aJ qR);clear aJ ni aM qR;go_wp2_with fail;refine(kK _ _ _ w2).mono ?_;rintro e w3 ⟨⟨A3,n3,c3,B3,m3,d3,rfl⟩,aR⟩;have nk:=G (own_below iW aR);have bC:=G (aS.below aR aS.lt);have EE:=G (bS aR xK);clear aR iW aS xK;go_wp2_with fail;refine(kK _ _ _ w3).mono ?_;rintro e w4 ⟨⟨A4,n4,c4,B4,m4,d4,rfl⟩,bu⟩;have xM:=G (own_below nk bu);have dE:=G (bC.below bu bC.lt);have IP:=G (bS bu EE);clear bu nk bC EE;go_wp2_with fail;refine(kK _ _ _ w4).mono ?_;rintro e w5 ⟨⟨A5,n5,c5,B5,m5,d5,rfl⟩,cO⟩;have xX:=G (own_below xM cO);have fT:=G (dE.below cO dE.lt);have HL5:=G (bS cO IP);clear cO xM dE IP;obtain⟨G2,hG⟩:∃gN:Array ak,gN=#[au ⟨#[69,85,82]⟩,C D 2026,C D 1,C D 36,O A vY.length c,C D 1500,C D 1600,C D 1700,C D 1200,C D 3100,C D 3200,C D 3300,C D 3400,C D 3500,C D 4500,C D 4600,C D 4700,C D 5500,C D 5600,C D 5700,O w5 4 4]:=⟨_,rfl⟩;have hG4:G2[4]?=N (O A vY.length c):=by rw[hG];rfl
 have hGs:G2.size=21:=by rw[hG];rfl
 have hone:G2.all (·.oneCell')=Z:=by rw[hG];simp[Value.oneCell']
 have HZ:af (∀jE,((w5.alloc jE).setRow w G2).heap[w.heap.size]?=N (ag G2 29 (0,0))/\((w5.alloc jE).setRow w G2).ownsRow w 78 4 (O A vY.length c) vY.length (jS vY)/\aj w w ((w5.alloc jE).setRow w G2)):=λjE=>have ES:(w5.alloc jE).grownBy ((w5.alloc jE).setRow w G2) (N w):=⟨rfl,rfl,rfl,abA,λq _ hq=>setRow_other _ _ q G2 (λe=>hq MZ)⟩;⟨setRow_heap _ _ _ G2 _ _ (fT.alloc jE),Kv ((xX.alloc jE).kept ES (.inr (iQ (xX.alloc jE) (fT.alloc jE) aL))) lY,(bJ HL5 jE).grown ES (by have:=HL5.size;simp only[aW];omega) (λq hq=>by cases hq;exact aC _)⟩;go_wp2_with(refine wpList_store_row rfl 29 _ _ rfl w.heap.size G2 rfl (by rw[hG];rfl) 29 _ (fT.alloc _) (by rw[JA,hGs]) (by rw[hGs];rfl) hone ?_);refine eX (v:=aD G2) (results_cell_row results16 _ _ w 29 G2 (0,0) _ rfl (HZ _).1 underlying29 rfl (by rw[JA,hGs])) rfl ⟨A,vY.length,c,G2,rfl,hGs,hG4,rfl,(HZ _).2.1,(HZ _).2.2⟩
def awS:List UInt8:= [114,117,108,101,32,97,32,101,97,99,104,32,112,97,105,114,32,123,32,116,111,32,50,48,48,48,59,32,125]
def aeP(p:List di):Bool:=jT p&&(mq vY Z&&mg (fJ vY) [] p&&decide (p.length=1)&&p.all λr=>oC (oG r).pair (oG r).ins&&decide (0<(oG r).ins.length)&&decide ((oG r).ins.length<=100))
theorem ani:((tk awS).bind (tJ 200000 9000 9000)).map aeP=N Z:=by kernel_rfl
theorem aBM:∀x∈vY,Dh x:=by unfold Dh fU vY;decide
theorem aBN(cs:Array ak)(v:ak)(w:Y)(h:cs[4]?=N v):Sem.run aa (Instr.field 29 (aD cs) 2) w= .ok v w:=by have e:Sem.run aa (Instr.field 29 (aD cs) 2) w=Sem.run aa (match cs[4]? with|N v=>(pure v:Sem ak)|J=>stuck "part: no such cell") w:=dh;rw[e,h];rfl
theorem aBO(w:Y)(hE:Env w):aF aa 4 #[] w λe w'=>e=aI (ax Z)/\aj w.heap.size w w':=by
 have HP:=G (acL awS w hE aL 200000 (aC _));have HE:=G hE;clear hE;go_enter func4,ntmps4;go_wp2_with fail;refine HP.E.mono ?_;rintro e w1 ⟨aB,h⟩;rcases h with⟨p,A,c,rfl,hA,hp,aX,fO,nC⟩|⟨a,x,rfl,_,h⟩;rotate_left
 ·exfalso;have h2:=ani;rcases h with h|h;·exact absurd h aL
  cases hq:(tk awS).bind (tJ 200000 9000 9000) with
  |none=>rw[hq] at h2;simp at h2
  |some p=>have h3:=h p hq;rw[hq] at h2;simp[aeP,h3] at h2
 have h2:=ani;rw[hp,qh,kH] at h2;unfold aeP at h2;simp only[bq,decide_eq_true_eq,xD] at h2;obtain⟨_,⟨⟨hc1,wQ⟩,xx⟩,CW⟩:=h2;obtain⟨r,rfl⟩:=List.length_eq_one_iff.1 xx;have OP:=CW r (List.mem_singleton_self _);have hE1:=HE.E.after aB;have HA:=G hA;clear hA HP HE hp CW xx;go_wp2_with fail;refine(aBL w1).mono ?_;rintro e w2 ⟨A2,n2,c2,cs,rfl,ql,hc4,rfl,ho,aJ⟩;have hf:=aBN cs _ w2 hc4;have HC:=G (aj7 [r] aX fO vY A2 vY.length c2 w2.heap.size w2 (hE1.after aJ) (λq=>q<w2.heap.size) A 1 c (HA.E.keep (λq hq=>aJ.block q hq.2) (λq hq=>by have:=aJ.size;omega)) (λq hq=>hq) (Reads.uA ho) (aC _) aL aBM);have aS:=G (bS aJ aB);rw[show(mq vY Z&&mg (fJ vY) [] [r])=Z by rw[hc1,wQ];rfl] at HC;clear ho aJ aB hE1 HA hc1 wQ aX fO nC hc4 ql;go_wp2_with fail;refine HC.E.mono ?_;clear HC;rintro e w3 ⟨aR,h⟩;rcases h with⟨_,v,rfl,l,hl,ho,kr⟩|⟨h,_⟩;rotate_left;·cases h
 have bC:=G (bS aR aS.E);obtain⟨⟨q,u⟩,rfl⟩:∃x,l= [x]:=List.length_eq_one_iff.1 (by have:=congrArg List.length hl;simpa using this);simp only[kE,List.map_nil,F6,and_true] at hl;subst hl;have hu:=kr _ (List.mem_singleton_self _);obtain⟨⟨wH,qF⟩,kV⟩:=OP;obtain⟨g,cc,rfl⟩:=Um ho aG;obtain⟨g2,cc2,rfl⟩:∃g c,u=O (N ⟨g,0,J⟩) (oG r).ins.length c:=Um hu qF;have hV:=adX ⟨(oG r).name.toArray⟩ (oG r).pair g2 0 (oG r).ins.length cc2 (oG r).ins w3 (um.own hu) rfl qF I;rw[wH] at hV;have uf:∀j u',j<3->(L6 (oG r) (O (N ⟨g2,0,J⟩) (oG r).ins.length cc2))[j]?=N u'->w3.cell? ⟨g,j,J⟩=N u':=λj u' hj hu'=>by obtain⟨_,_,cur,hb,h3⟩:=Jh ho;rw[hb.cell,<-OH,<-hu',show L6 (oG r) (O (N ⟨g2,0,J⟩) (oG r).ins.length cc2)=cur.toList.take 3 from by simpa[Dn] using h3.symm,List.getElem?_take_of_lt hj]
 have y0:=uf 0 _ I rfl;have y1:=uf 1 _ I rfl;have y2:=uf 2 _ I rfl;have HV:=G hV;clear uf hV hu kr ho wH qF kV aR aS hf;unfold wZ at HV;go_wp2_with fail;refine HV.E.mono ?_;rintro e w4 ⟨rfl,bu⟩;go_wp2_with fail;go_ret;exact⟨rfl,bS bu bC.E⟩
theorem Jk.low{W':Y}{b:jY}(h:Jk W B b)(hB:B<=W.heap.size)(hb:aj W W W'):Jk W' B b:=⟨h.gr.low hB (aC _) hb,h.rr.fV hB (aC _) hb,h.rl,h.rc,h.rk,h.er.fV hB (aC _) hb,h.el,h.ec,λx hx=>⟨(h.ek x hx).rd.fV hB (aC _) hb,(h.ek x hx).le,(h.ek x hx).cap,(h.ek x hx).tx,(h.ek x hx).id,(h.ek x hx).of,(h.ek x hx).da⟩⟩
theorem anl{ops:Array Oper}{rest:List Oper}{o:Oper}{a:Act}{Q:Exit->Act->Y->Prop}(hw:sZ o (yielded ops a.tmps)=Z)(x:Operand)(ho:o.op= .load 36 x)
  (g:Nat) (hx:a.eval x=aQ g) (cs:Array ak) (hs:cs.size=27) (hg:ai w g 36 cs) (h:wpList aa ops Q rest (a.put o.dst (aD cs)) w):wpList aa ops Q (o::rest) a w:=BigFrame.wpList_want hw λK hK=>wp_load_row 36 x ho g hx 36 cs (0,0) _ hg underlying36 rfl (by rw[aeJ,hs]) (hK _ _ h)
theorem rd6:∀a b:Fin 7,a.val<b.val->0<(kJ ((a.val:Int)+1) (b.val:Int)).2/\(kJ ((a.val:Int)+1) (b.val:Int)).2<=1000/\(kJ ((a.val:Int)+1) (b.val:Int)).1.natAbs<=1000:=by decide +kernel
theorem aBS(hk:k<n)(hn:n<=6):0<(kJ ((k:Int)+1) (n:Int)).2/\(kJ ((k:Int)+1) (n:Int)).2<=1000/\(kJ ((k:Int)+1) (n:Int)).1.natAbs<=1000:=rd6 ⟨k,I⟩ ⟨n,I⟩ hk
theorem anm:∀(l:List cZ) (ns:List (List UInt8)),(∀s∈l,s.expr.sz<=1000000)->(cS ns l).length<=l.length*1000001
 | [],_,_=>by simp[cS]
 |s::r,ns,h=>by
  have h1:=h s (SL ..);have h2:=anm r (if s.kind=1 then ns++ [s.name] else ns) (λx hx=>h x (F8 _ hx));have h3:((if s.kind=1 then[⟨23,(ns.length:Nat),0⟩] else if s.kind=2 then[⟨24,0,0⟩] else[⟨25,s.dM,0⟩]:List Ins)).length=1:=by split;rfl;split<;>rfl
  unfold cS;rw[eB,eB,aav,h3,iP,Nat.add_mul];omega
theorem ann{r:di}(ho:jK r=Z)(hl:zu r):0<(cR r).length/\(cR r).length<=100000000:=by
 have h1:=anm r.stmts [] (λs hs=>(hl.2.2 s hs).2.2);have h2:r.stmts.length<=30:=by unfold jK at ho;simp only[bq,decide_eq_true_eq] at ho;exact ho.1.1.2
 unfold cR;rw[eB,mf];have:=Nat.mul_le_mul_right 1000001 h2;omega
theorem Bf.more{B':Nat}{l:List gF}(h:Bf w B A n l)(hB:B<=B'):Bf w B' A n l:=⟨h.1.more hB,λm hm=>(h.2 m hm).more hB⟩
theorem aBT(a b:Int):jf (jf a+b)=jf (a+b):=by unfold jf RowKit.wrap64;omega
def OQ(ps:List (Int × Int))(j:Nat):Int:=jf ((ps.take j).map (·.2)).sum
theorem aBU(ps:List (Int × Int)):OQ ps 0=0:=by unfold OQ;exact ahM (k:=0) aG
theorem aBV{j:Nat}(hj:j<ps.length):jf (OQ ps j+(ps.getD j ay).2)=OQ ps (j+1):=by unfold OQ;rw[aBT,sD hj,oM,List.sum_append];simp[dO,hj]
theorem aBW(h:∃k:Int,(ps.map (·.2)).sum=18446744073709551616*k):OQ ps ps.length=0:=by obtain⟨k,hk⟩:=h;unfold OQ;rw[Nb];exact ahM hk
def fC(c:mR):mR:=⟨c.name,c.pair,wM c.ins⟩
theorem aBX(cz:Int->Bool)(p:List di)(ho:jT p=Z)(hc:mg cz [] p=Z)(l:List (mR × ak))(hl:∀i,i<p.length->(l.getD i ay).1=fC (oG (p.getD i ay)))(ss:List lh):
  vL (λi s o=>vK (dQ (lS s o) (l.getD i ay).1.ins [] [] [])) (λi=>(l.getD i ay).1.pair) ss p.length 0 []=vL (Lx p) (λi=>(p.getD i ay).pair) ss p.length 0 []:=by
 rw[<-atq cz p ss ho hc];refine acU ss p.length 0 [] (λi hi=>?_);have zY:i<p.length:=I;rw[hl i zY];refine⟨?_,rfl⟩;funext s o;unfold acV;have e:(p.map λr=>wM (cR r)).getD i []=wM (cR (p.getD i ay)):=by exact aiG
 rw[e];rfl
theorem aBY(cz:Int->Bool)(p:List di)(hc:mg cz [] p=Z)(ss:List lh):
  vL (λi s o=>vK (Bh (lS s o) (p.getD i ay).stmts [] [] (p.getD i ay).az)) (λi=>(p.getD i ay).pair) ss p.length 0 []=vL (Lx p) (λi=>(p.getD i ay).pair) ss p.length 0 []:=by refine acU ss p.length 0 [] (λi hi=>⟨?_,rfl⟩);have h1:=Ws cz p [] hc _ (SN (show i<p.length by omega));unfold qj at h1;rw[bq] at h1;funext s o;unfold Lx;rw[ayj (lS s o) cz (p.getD i ay).pair (p.getD i ay).az (p.getD i ay).stmts [] [] h1.1]
theorem aBZ(cz:Int->Bool)(p:List di)(ho:jT p=Z)(hc:mg cz [] p=Z)(ss:List lh)(ps:List jh)(h:vL (Lx p) (λi=>(p.getD i ay).pair) ss p.length 0 []=N ps):
  ∀x∈ps,(∃k:Int,(x.parts.map (·.2)).sum=18446744073709551616*k)/\∀q∈x.parts,cz q.1=Z:=atp (Q:=λparts=>(∃k:Int,(parts.map (·.2)).sum=18446744073709551616*k)/\∀q∈parts,cz q.1=Z) ss p.length 0 [] ps (λi s o qs hi h=>atr cz p ho hc i s o qs I h) (λx hx=>by cases hx) h
theorem aB0(l:List bE)(c:Int)(h:fJ l c=Z):(l.any λx=>decide (x.code=c))=Z:=by unfold fJ gZ at h;simpa using h
def MF(q:mR × ak):List ak:=L6 q.1 q.2
theorem aeQ(l:List (mR × ak)):Dn l=l.flatMap MF:=by unfold Dn;rw[List.flatMap_def];rfl
theorem UC:∀q:mR × ak,(MF q).length=3:=λ_=>rfl
theorem aB1{w5 w7:Y}{g i:Nat}{l:List (mR × ak)}(ho:w7.ownsRow base 64 3 (O g n c) n (Dn l))(hl:l.length=n)(hi:i<n)(c1:mR)(hn:c1.name=(l.getD i ay).1.name)(hp:c1.pair=(l.getD i ay).1.pair)(v':ak)(kr:Qv w7 base l)
  (hv:w7.ownsRow base 142 3 v' c1.ins.length (kR c1.ins)) (hb:aj B w5 w7) (hB:B<=base) (nm:ByteArray) (nO:nm=⟨c1.name.toArray⟩):
  ∀W,W=((w7.setCell ⟨g,i*3,J⟩ (.string nm)).setCell ⟨g,i*3+1,J⟩ (ax c1.pair)).setCell ⟨g,i*3+2,J⟩ v'->W.ownsRow base 64 3 (O g n c) n (Dn (l.set i (c1,v')))/\Qv W base (l.set i (c1,v'))/\aj B w5 W:=by
 intro W hW;subst hW;subst nO;rw[aeQ] at ho;have hgb:=(Jh ho).1;have aB2:=(Jh ho).2.2;have rP:i<l.length:=I;have e0:l.set i (l.getD i ay)=l:=by rw[show l.getD i ay=l[i] by simp[dO,rP]];exact List.set_getElem_self rP
 have s1:=XW MF UC (k:=i) (j:=0) (v:=au ⟨c1.name.toArray⟩) (t':=l.getD i ay) ho hl hi I (by rw[hn];rfl);rw[e0] at s1;have s2:=XW MF UC (k:=i) (j:=1) (v:=ax c1.pair) (t':=l.getD i ay) s1 hl hi I (by rw[hp];rfl);rw[e0] at s2;have s3:=XW MF UC (k:=i) (j:=2) (v:=v') (t':=(c1,v')) s2 hl hi I (by unfold MF L6;simp only[];rw[hn,hp];rfl);have hoth:∀ {q:ak} {m:Nat} {xs:List ak},w7.ownsRow base 142 3 q m xs->(((w7.setCell ⟨g,i*3,J⟩ (au ⟨c1.name.toArray⟩)).setCell ⟨g,i*3+1,J⟩ (ax c1.pair)).setCell ⟨g,i*3+2,J⟩ v').ownsRow base 142 3 q m xs:=by intro q m xs h;obtain⟨cur,XZ,_⟩:=aB2;have aY:=λ(e:q.ownBlock=N g)=>iQ h XZ aL e;exact mO (mO (mO h (a:=⟨g,i*3,J⟩) aY _) (a:=⟨g,i*3+1,J⟩) aY _) (a:=⟨g,i*3+2,J⟩) aY _
 refine⟨by rw[aeQ];exact s3,λq hq=>?_,((hb.setCell (p:=⟨g,i*3,J⟩) (ja hB hgb) _).setCell (p:=⟨g,i*3+1,J⟩) (ja hB hgb) _).setCell (p:=⟨g,i*3+2,J⟩) (ja hB hgb) _⟩;rcases Sm hq with h|rfl;·exact hoth (kr q h)
 exact hoth hv
theorem ano:∀(is out:List Ins),(is.foldl lG out).length<=out.length+is.length
 | [],out=>by simp
 |x::r,out=>by have h1:=ano r (lG out x);have h2:=axw out x;rw[M8,iP];omega
theorem aB3{cc:Nat}{cA:Option aK}{p:List di}{l:List (mR × ak)}{cz:Int->Bool}(ho:W.ownsRow base 64 3 (O cA n cc) n (Dn l))(kr:Qv W base l)(hl:l.length=n)(hn:n=p.length)(hd:∀j,j<n->(l.getD j ay).1=fC (oG (p.getD j ay)))(aX:jT p=Z)(fO:∀r∈p,zu r)(jR:mg cz [] p=Z):Jd W W cA n l:=by
 refine⟨Reads.uA ho,hl,λq hq=>?_⟩;obtain⟨j,hj,e⟩:=List.mem_iff_getElem.1 hq;have hjn:j<n:=I;have hd':=hd j hjn;rw[show l.getD j ay=q by simp[dO,hj,e]] at hd';have hrm:p.getD j ay∈p:=SN I;have Jo:jK (p.getD j ay)=Z:=by have:=aX;unfold jT at this;rw[bq] at this;exact xD.1 this.1 _ hrm
 have bH:=ann Jo (fO _ hrm);have EL:=ars _ _ (ahL cz (p.getD j ay) Jo (Ws _ p [] jR _ hrm));have hb:=kr q hq;rw[hd'] at hb;have h2:(wM (cR (p.getD j ay))).length<=100000000:=by have:=ano (cR (p.getD j ay)) [];unfold wM;simp only[pV] at this;omega
 have h1:0<(wM (cR (p.getD j ay))).length:=by
  unfold oC at EL;rw[bq] at EL;cases hf:wM (cR (p.getD j ay)) with
  |nil=>rw[hf] at EL;simp at EL
  |cons a b=>simp
 obtain⟨g,c,hg⟩:=Um hb h1;rw[hd',hg];rw[hg] at hb;exact⟨g,_,c,rfl,(Jh hb).2.1,um.own hb,rfl,h1,h2,EL⟩
def aeR(bad:Bool)(o:Option (List jh))(w w1:Y)(v:ak)(c:Int):Prop:=(bad=Z/\c=1/\v=O J 0 0)\/(bad=X/\o=J/\c=2/\v=O J 0 0)\/∃ps,bad=X/\o=N ps/\c=0/\yV w1 w v ps
theorem abf(W:Y)(B:Nat):yV W B (O J 0 0) []:=⟨[],rfl,ng _ _ _ _,λq h=>by cases h⟩
theorem aB4{bad:Bool}{o:Option (List jh)}{w1 w2:Y}{c1 c2:Int}(h1:aeR bad o w w1 v1 c1)(hb:aj w1 w1 w2)(h2:aeR bad o w1 w2 v2 c2):c1=c2/\∃ps,yV w2 w v1 ps/\yV w2 w1 v2 ps/\(o=N ps\/ps= []):=by
 rcases h1 with⟨a1,a2,a3⟩|⟨a0,a1,a2,a3⟩|⟨ps,a0,a1,a2,a3⟩
 ·rcases h2 with⟨_,b2,b3⟩|⟨b0,b1,b2,b3⟩|⟨ps',b0,b1,b2,b3⟩;·subst a3;subst b3;exact⟨I,[],abf _ _,abf _ _,.inr rfl⟩
  ·rw[a1] at b0;cases b0
  rw[a1] at b0;cases b0
 ·rcases h2 with⟨b1,b2,b3⟩|⟨_,_,b2,b3⟩|⟨ps',_,b1,b2,b3⟩;·rw[a0] at b1;cases b1
  ·subst a3;subst b3;exact⟨I,[],abf _ _,abf _ _,.inr rfl⟩
  rw[a1] at b1;cases b1
 rcases h2 with⟨b1,b2,b3⟩|⟨_,b1,b2,b3⟩|⟨ps',_,b1,b2,b3⟩;·rw[a0] at b1;cases b1
 ·rw[a1] at b1;cases b1
 rw[a1] at b1;injection b1 with b1;subst b1;exact⟨I,ps,a3.below hb,b3,.inl a1⟩
theorem aB5:(aa.info? 52).map (λi=>(i.zero,i.size,i.bytes))=N (N (aD #[C D 0,X,X,O J 0 0,X,O J 0 0,O J 0 0]),7,104):=by kernel_rfl
theorem anp(h:R:=by refine bF hK (HS.E _ oq.E) (λaDJ=>?_);clear hK K v0 v1 v2 v3 iB;refine aA 17 ?_;refine gI ?_;go_wp2_with fail;refine⟨⟨j+1,?_,bR,I,oq.E⟩,bW⟩;rw[<-hstep]):R:=h
theorem aeS(h:R:=by go_wp2_with fail;refine(HAW.E w2 aS.E).mono ?_;rintro e w3 ⟨rfl,aR⟩;go_wp2_with fail;go_ret;exact⟨rfl,bS aR aS.E⟩):R:=h
theorem aB6(b:jY)(s:List UInt8)(p:Int)(w:Y)(hE:Env w)(hb:Jk w w.heap.size b):aF aa 3 #[aD (mJ b),au ⟨s.toArray⟩,C D p] w λe w'=>e=aI (ax Z)/\aj w.heap.size w w':=by
 obtain⟨i0,gz,fu,gq,fG⟩:=info_parts aB5;have bV:=aeF b;obtain⟨j0,j1,j2,j3,KA,OL,OM⟩:=aa7 b;have j4:(mJ b)[4]?=N (O b.g.Ac b.g.nc b.g.cc):=rfl;have HAW:af (∀W:Y,aj w.heap.size w W->_):=λW hW=>aBO W (hE.after hW);have HFW:af (∀W:Y,aj w.heap.size w W->_):=λW hW=>aBF b w.heap.size W (hb.low (aC _) hW) hW.size;have wP:af (∀(W:Y) (k:Int),Cy W w.heap.size b->w.heap.size<=W.heap.size->_):=λW k h1 h2=>aBv b w.heap.size k p W h1 h2;have Tm:af (∀(W:Y) (q:Nat),ai W q 36 (mJ b)->W.rangeAt q 0 (dx b.g).toList):=λW q h=>aeH h;have HE:=G hE;clear hE hb j0 j1 j2 j3 OL OM;generalize mJ b=BC at*;have aP:=G (bJ (bQ w) (ag BC 36));have dC:=G (ai.new w 36 BC);go_enter func3,ntmps3;go_wp2_with fail;generalize w.alloc _=w0 at*;refine(HAW.E w0 aP.E).mono ?_;rintro e w1 ⟨rfl,aB⟩;have aM:=G (bS aB aP.E);have bO:=G (dC.E.below aB dC.E.lt);clear aB aP dC;go_wp2_with(refine anl iN _ rfl _ rfl _ bV bO.E ?_);refine(HFW.E w1 aM.E).mono ?_;rintro e w2 ⟨v,rfl,hv,aJ⟩;have aS:=G (bS aJ aM.E);have eu:=G (bO.E.below aJ bO.E.lt);have HV:=G hv;have yg:=G aJ;clear aJ bO hv HFW;have HS:=G (λ(W:Y) (hW:aj w.heap.size w W)=>HAW.E W hW);cases v;case false=>exact aeS
 have HK:af (Cy w w.heap.size b):=(HV.E rfl).keep (λq hq=>(aM.E.cell hq).symm);have aY:=HK.E.ne;have nX:=(eu.E.cell 20).trans KA;clear HV yg HS;by_cases aDK:s.length<=1000;case neg=>have d1:decide ((1000:Int)<(s.length:Int))=Z:=jO;exact aeS
 have d1:decide ((1000:Int)<(s.length:Int))=X:=fI;have d1':¬(1000:Int)<(s.length:Int):=I;by_cases h6:b.g.ne<=6;case neg=>have d2:decide ((6:Int)<(b.g.ne:Int))=Z:=jO;exact aeS
 have d2:decide ((6:Int)<(b.g.ne:Int))=X:=fI;have d2':¬(6:Int)<(b.g.ne:Int):=I;go_wp2_with fail;clear HAW;go_loopw [7,8] (λlv kv wr=>∃(k:Nat) (A:Option aK) (c:Nat) (ls:List gF),lv=O A k c/\kv=C D k/\k<=b.g.ne/\ls.length=k/\(∀j,j<k->(ls.getD j ay).s.bD=(j:Int))/\wr.ownsRow w.heap.size 52 7 (O A k c) k (OB ls)/\(∀m∈ls,zS wr w.heap.size m)/\Jn wr 52 UB (O A k c)/\aj w.heap.size w wr/\ai wr w.heap.size 36 BC) (λ_ kv _=>b.g.ne-(intOf kv).toNat);case atStart=>exact⟨0,J,0,[],rfl,rfl,I,rfl,λj hj=>by omega,ng _ _ _ _,(λm hm=>by cases hm),(λg hg=>by cases hg),aS.E,eu.E⟩
 obtain⟨k,A,c,ls,rfl,rfl,hk,hl,hent,how,hms,iR,aH,hx⟩:=hrel;obtain⟨wo,rfl⟩:=dz wr;have Jp:=G aH;have Re:=G hx;have HO:=G how;have HM:=G hms;have Qs:=G iR;have HN:=G hent;have HL:=G hl;have hsr:=aH.size;have y20:=(hx.cell 20).trans KA;clear nX aM aS eu how hms iR hent aH hx hl;by_cases aO:k<b.g.ne;case pos=>
  have k3:decide ((k:Int)<(b.g.ne:Int))=Z:=jO;have k4:(k:Int)<(b.g.ne:Int):=I;go_wp2_with(refine anl iN _ rfl _ rfl _ bV Re.E ?_);refine(wP.E wo (k:Int) (HK.E.low (aC _) Jp.E) hsr).mono ?_;rintro e w3 ⟨v,li,q,rfl,hq,aR⟩;have bC:=G (bS aR Jp.E);have fD:=G (Re.E.below aR Re.E.lt);have nk:=G (own_below HO.E aR);have I9:af (∀m∈ls,zS w3 w.heap.size m):=λm hm=>(HM.E m hm).below aR;have anq:=G (Qs.E.below HO.E aR);have HQ:=G hq;have fM:=aR.size;clear hq aR Jp Re HO HM Qs y20;by_cases hq0:q=0;case neg=>
   have d4:(q==0)=X:=by simp[hq0]
   go_wp2_with fail;go_ret;exact⟨rfl,bC.E⟩
  subst hq0;have y20:=(fD.E.cell 20).trans KA;go_wp2_with fail;refine(akY ((k:Int)+1) (b.g.ne:Int) w3 I I I I).mono ?_;obtain⟨r1,r2,r3⟩:=aBS aO h6;generalize(kJ ((k:Int)+1) (b.g.ne:Int)).1=ra at*;generalize(kJ ((k:Int)+1) (b.g.ne:Int)).2=rb at*;rintro e w4 ⟨nn,nm,dn,dm,rfl,hi1,Ct,bu⟩;have HI1:=G hi1;have sV:=G Ct;obtain⟨rfl,Aa,na,ca,rfl⟩:=hi1.forms;obtain⟨rfl,Ab,nb,cb,rfl⟩:=Ct.forms;obtain⟨BO,Jf⟩:=HQ.E KL;obtain⟨Al,cl,rfl⟩:=eO Jf;obtain⟨m,hm⟩:∃m:gF,m=⟨⟨(k:Int),(k:Int)!=1,ra,rb,li⟩,ax (decide (ra<0)),O Aa na ca,ax (decide (rb<0)),O Ab nb cb,O Al li.length cl⟩:=⟨_,rfl⟩;have cO:=bJ (bQ w4) (ag #[ax (decide (ra<0)),O Aa na ca,ax (decide (rb<0)),O Ab nb cb] 48);have Lr:af (zS w4 w.heap.size m):=by show zS _ _ _;rw[hm];exact⟨HI1.E,sV.E,r1,r2,r3,BO,own_below (Kv Jf hsr) bu⟩
  have dE:=G (bS bu bC.E);have sN:=G (fD.E.below bu fD.E.lt);have xM:=G (own_below nk.E bu);have anr:=G (anq.E.below nk.E bu);have zF:af (∀m∈ls,zS w4 w.heap.size m):=λm hm=>(I9.E m hm).below bu;have rH:=bu.size;clear hi1 Ct bu Jf bC fD nk I9 anq HQ y20 cO;have aB7:af (∀W:Y,w4.heap.size<=W.heap.size->aj w4.heap.size w4 W->∀(o:Obj) v6 w6,w6.ownsRow w.heap.size 52 7 v6 (k+1) (OB ls++m.row)->(W.alloc o).grownBy w6 (O A k c).ownBlock->Jn w6 52 UB v6->∃A6 c6,v6=O A6 (k+1) c6/\(∀j,j<k+1->((ls++ [m]).getD j ay).s.bD=(j:Int))/\w6.ownsRow w.heap.size 52 7 (O A6 (k+1) c6) (k+1) (OB (ls++ [m]))/\(∀m'∈ls++ [m],zS w6 w.heap.size m')/\aj w.heap.size w w6/\ai w6 w.heap.size 36 BC):=by
   show ∀_,_;intro W _ hbW o v6 w6 Yp bU KD;have za:=bJ hbW o;have hoo:=own_below xM.E za;have iV:=anr.E.below xM.E za;have hxx:=sN.E.below za sN.E.lt;obtain⟨A6,c6,rfl⟩:=eO Yp;refine⟨A6,c6,rfl,λj hj=>?_,?_,?_,?_,?_⟩
   ·rcases jl j k with h1|h1;·have h2:=HN.E j h1;rwa [show(ls++ [m]).getD j ay=ls.getD j ay by simp[dO,List.getElem?_append_left (show j<ls.length by rw[HL.E];exact h1)]]
    obtain rfl:j=k:=by omega
    rw[show(ls++ [m]).getD j ay=m by simp[dO,<-HL.E],hm]
   ·rw[show OB (ls++ [m])=OB ls++m.row by simp[OB]];exact Yp
   ·intro m' Im;rcases pW.1 Im with h1|h1;·exact((zF.E m' h1).below za).grow hoo iV bU
    rw[lF.1 h1];exact(Lr.E.below za).grow hoo iV bU
   ·exact(bS za dE.E).grown bU (by have:=za.size;have:=dE.E.size;omega) (λr e=>lJ hoo r e)
   exact hxx.grown bU (λe=>iQ hoo hxx aL e.symm)
  have jg:af (∀j u,m.row[j]?=N u->((w4.alloc (ag #[ax (decide (ra<0)),O Aa na ca,ax (decide (rb<0)),O Ab nb cb] 48)).alloc (ag #[C D (k:Int),ax ((k:Int)!=1),ax (decide (ra<0)),O Aa na ca,ax (decide (rb<0)),O Ab nb cb,O Al li.length cl] 52)).cell? ((⟨w4.heap.size+1,0,J⟩:aK).add j)=N u):=by show ∀_,_;rw[hm];have h:=(mX (w4.alloc (ag #[ax (decide (ra<0)),O Aa na ca,ax (decide (rb<0)),O Ab nb cb] 48)) #[C D (k:Int),ax ((k:Int)!=1),ax (decide (ra<0)),O Aa na ca,ax (decide (rb<0)),O Ab nb cb,O Al li.length cl] 52 7 rfl).2 I;rw[aW] at h;obtain⟨ad,e1,_,e2⟩:=h;cases e1;exact e2
  have fT:=G (bJ (bJ (bQ w4) (ag #[ax (decide (ra<0)),O Aa na ca,ax (decide (rb<0)),O Ab nb cb] 48)) (ag #[C D (k:Int),ax ((k:Int)!=1),ax (decide (ra<0)),O Aa na ca,ax (decide (rb<0)),O Ab nb cb,O Al li.length cl] 52));have xX:=G (own_below xM.E fT.E);have Ba:=G (anr.E.below xM.E fT.E);have aeT:af ((∀u∈m.row,u.oneCell'=Z)/\(∀u∈m.row,UB u)/\m.row.length=1*7):=by show _/\_;rw[hm];exact⟨aBR _ _ _ _ _ _ _ _ _ _ _ _ _,ank _ _ _ _ _ _ _ _ _ _ _ _ _,rfl⟩
  clear HI1 sV zF Lr sN dE hm HN;go_wp2_with(at_builtin;go_loud (refine aBQ _ rfl (.tmp 81) (.tmp 88) _ rfl w.heap.size 52 i0 _ 7 104 underlying39 gz fu gq fG rfl I _ k (OB ls) rfl xX.E ⟨w4.heap.size+1,0,J⟩ 1 1 m.row rfl aeT.E.2.2 jg.E aeT.E.1 I lH I bB Ba.E (ank _ _ _ _ _ _ _ _ _ _ _ _ _) aeT.E.2.1 ?_;intro v6 w6 Yp bU KD;obtain⟨A6,c6,rfl,ant,rW,Qj,dJ,oI⟩:=aB7.E _ bB (bJ (bQ w4) _) _ v6 w6 Yp bU KD;have Sz:=G ant;have qN:=G rW;have wU:=G Qj;have eY:=G dJ;have Eh:=G oI;have zJ:=G KD;clear Yp bU KD ant rW Qj dJ oI));exact⟨⟨k+1,A6,c6,ls++ [m],rfl,bR,I,by rw[eB,HL.E,mf],Sz.E,qN.E,wU.E,zJ.E,eY.E,Eh.E⟩,bW⟩
 have hke:k=b.g.ne:=I;have k4:¬(k:Int)<(b.g.ne:Int):=I;have HP:=G (acL s wo (HE.E.after Jp.E) I 200000 (aC _));clear wP Qs;go_wp2_with fail;refine HP.E.mono ?_;clear HP;rintro e w3 ⟨aR,h⟩;have bC:=G (bS aR Jp.E);have fD:=G (Re.E.below aR Re.E.lt);have nk:=G (own_below HO.E aR);have I9:af (∀m∈ls,zS w3 w.heap.size m):=λm hm=>(HM.E m hm).below aR;clear aR Jp Re HO HM y20;obtain⟨P,Ap,cp,xe,ye,rfl,UD,aX,fO,nC,DZ⟩:∃(P:List di) (Ap:Option aK) (cp:Nat) (xe ye:Int),e=aI (bz #[O Ap P.length cp,C D xe,C D ye])/\tZ w3 (λq=>q<w3.heap.size) P Ap P.length cp/\jT P=Z/\(∀r∈P,zu r)/\P.length<=8000/\(ye=0\/ye≠0):=by
  rcases h with⟨P,Ap,cp,rfl,hA,_,aX,fO,nC⟩|⟨a,x,rfl,hx,_⟩;·exact⟨P,Ap,cp,0,0,rfl,hA.keep (λq _=>rfl) (λq hq=>hq.2),aX,fO,nC,.inl rfl⟩
  exact⟨[],J,0,a,x,rfl,⟨rfl,aC _,λi hi=>absurd hi aG⟩,rfl,(λr hr=>by cases hr),aG,.inr hx⟩
 clear h;have vE:=G UD;have dI:=G aX;have uL:=G fO;have Ls:=G (as3 P aX fO nC _ Ap P.length cp w3 (HE.E.after bC.E) UD (λq hq=>hq));clear UD aX fO;go_wp2_with fail;refine Ls.E.mono ?_;clear Ls;rintro e w4 ⟨rfl,bu⟩;have dE:=G (bS bu bC.E);have sN:=G (fD.E.below bu fD.E.lt);have xM:=G (own_below nk.E bu);have zF:af (∀m∈ls,zS w4 w.heap.size m):=λm hm=>(I9.E m hm).below bu;have Ef:af (tZ w4 (λq=>q<w4.heap.size) P Ap P.length cp):=vE.E.keep (λq hq=>bu.block q hq) (λq hq=>by have:=bu.size;omega);clear bu bC fD nk I9 vE;obtain⟨n0,rf⟩:=aow (p:=P) (by have:=dI.E;unfold jT at this;rw[bq] at this;exact this.1);obtain⟨T,fe,anu,hT,hTl⟩:∃(T:List UInt8) (fe:Int),aaa P=bz #[au ⟨T.toArray⟩,C D fe]/\((fe=0/\T=Fv P)\/fe=6)/\T.length<=8000:=by
  unfold aaa;split;·rename_i h8;exact⟨Fv P,0,rfl,.inl ⟨rfl,rfl⟩,h8⟩
  exact⟨[],6,rfl,.inr rfl,aG⟩
 rw[anu];have HP:=G (acL T w4 (HE.E.after dE.E) I (200000+n0) I);go_wp2_with fail;refine HP.E.mono ?_;clear HP;rintro e w5 ⟨cO,h⟩;have fT:=G (bS cO dE.E);have Ee:=G (sN.E.below cO sN.E.lt);have xX:=G (own_below xM.E cO);have IK:af (∀m∈ls,zS w5 w.heap.size m):=λm hm=>(zF.E m hm).below cO;have CS:af (tZ w5 (λq=>q<w5.heap.size) P Ap P.length cp):=Ef.E.keep (λq hq=>cO.block q hq) (λq hq=>by have:=cO.size;omega);clear cO dE sN xM zF Ef;obtain⟨P2,A2,c2,x2,y2,rfl,UD,aX,fO,h2⟩:∃(P2:List di) (A2:Option aK) (c2:Nat) (x2 y2:Int),e=aI (bz #[O A2 P2.length c2,C D x2,C D y2])/\tZ w5 (λq=>q<w5.heap.size) P2 A2 P2.length c2/\jT P2=Z/\(∀r∈P2,zu r)/\(fe=0->P2=P/\y2=0):=by
  have hb:T=Fv P->(tk T).bind (tJ (200000+n0) 9000 9000)=N P:=λe=>by rw[e];exact rf _ I 9000 I 9000 I
  rcases h with⟨Q,A',c',rfl,hA,hq,aX,fO,_⟩|⟨a,x,rfl,_,hno⟩
  ·refine⟨Q,A',c',0,0,rfl,hA.keep (λq _=>rfl) (λq hq=>hq.2),aX,fO,λhf=>⟨?_,rfl⟩⟩;rcases hT with⟨_,hT⟩|hT;·have:=(hb hT).symm.trans hq;injection this with this;exact this.symm
   omega
  refine⟨[],J,0,a,x,rfl,⟨rfl,aC _,λi hi=>absurd hi aG⟩,rfl,(λr hr=>by cases hr),λhf=>?_⟩;exfalso;rcases hT with⟨_,hT⟩|hT
  ·rcases hno with h8|h8;·omega
   have:=h8 P (hb hT);rw[dI.E] at this;cases this
  omega
 clear h;have HC:=G (aj7 P2 aX fO b.g.jI b.g.Ac b.g.nc b.g.cc w.heap.size w5 (HE.E.after fT.E) (λq=>q<w5.heap.size) A2 P2.length c2 UD (λq hq=>hq) ((HK.E.low (aC _) fT.E).gr.mH.ch.rd) fT.E.size HK.E.gr.nc HK.E.gr.mH.ch.ok);have y4:=(Ee.E.cell 4).trans j4;clear UD aX fO;go_wp2_with fail;refine HC.E.mono ?_;clear HC y4;rintro e w6 ⟨dJ,h⟩;have eY:=G (bS dJ fT.E);have HD6:=G dJ;clear dJ;obtain⟨cv,xc,ec,rfl,hc⟩:∃(cv:ak) (xc ec:Int),e=aI (bz #[cv,C D xc,C D ec])/\(ec=0->(mq b.g.jI Z&&mg (fJ b.g.jI) [] P2)=Z/\aj6 w6 w5.heap.size cv (P2.map oG)):=by
  rcases h with⟨aX,v,rfl,hv⟩|⟨_,i,n,hn,rfl⟩;·exact⟨v,0,0,rfl,λ_=>⟨aX,hv⟩⟩
  exact⟨_,i,n,rfl,λh=>absurd h hn⟩
 clear h;have HT:=G hT;have H2:=G h2;have Ck:=G hc;clear hT h2 hc DZ;by_cases hy:ye=0;case neg=>
  have d7:(ye !=0)=Z:=by simp[hy]
  go_wp2_with fail;go_ret;exact⟨rfl,eY.E⟩
 subst hy;by_cases hf:fe=0;case neg=>
  obtain rfl:fe=6:=by rcases HT.E with⟨h,_⟩|h;exact absurd h hf;exact h
  go_wp2_with fail;go_ret;exact⟨rfl,eY.E⟩
 subst hf;obtain⟨rfl,rfl⟩:=H2.E rfl;by_cases Iq:ec=0;case neg=>
  have d7:(ec !=0)=Z:=by simp[Iq]
  go_wp2_with fail;go_ret;exact⟨rfl,eY.E⟩
 subst Iq;obtain⟨jR,l,KH,Jf,kr⟩:=Ck.E rfl;rw[bq] at jR;have nR:=G jR.2;have BO:l.length=P2.length:=by have:=congrArg List.length KH;simpa using this
 have aB8:P2.length<=40:=by have:=dI.E;unfold jT at this;simp only[bq,decide_eq_true_eq] at this;exact this.2
 have QX:=G (show Bf w5 w5.heap.size A b.g.ne ls from⟨by have h:=xX.E;rw[hke] at h;exact Reads.uA h,λm hm=>(IK.E m hm).ok⟩);have QB:af (∀j,j<P2.length->(l.getD j ay).1=oG (P2.getD j ay)):=λj hj=>by
  have h1:(l.map (·.1)).getD j ay=(P2.map oG).getD j ay:=by rw[KH]
  simpa[dO,show j<l.length by omega,hj] using h1
 have hcl:∃(g:Option aK) (c:Nat),cv=O g P2.length c:=by obtain⟨g,c,e⟩:=eO Jf;exact⟨g,c,by rw[e,BO]⟩
 obtain⟨cA,cc,rfl⟩:=hcl;rw[BO] at Jf;have JP:=G Jf;have yO:=G kr;clear Jf kr jR KH Ck H2 HT xX IK anu rf;go_wp2_with fail;go_loopw [24] (λiv wr=>∃(i:Nat) (l':List (mR × ak)),iv=C D i/\i<=P2.length/\l'.length=P2.length/\(∀j,j<i->(l'.getD j ay).1=fC (oG (P2.getD j ay)))/\(∀j,i<=j->j<P2.length->(l'.getD j ay).1=oG (P2.getD j ay))/\wr.ownsRow w5.heap.size 64 3 (O cA P2.length cc) P2.length (Dn l')/\Qv wr w5.heap.size l'/\aj w5.heap.size w5 wr) (λiv _=>P2.length-(intOf iv).toNat);case atStart=>exact⟨0,l,rfl,I,BO,(λj hj=>by omega),(λj _ hj=>QB.E j hj),JP.E,yO.E,HD6.E⟩
 obtain⟨i,l',rfl,hi,zM,hdone,CK,Jo,za,aH⟩:=hrel;obtain⟨wo,rfl⟩:=dz wr;have HDO:=G hdone;have WU:=G CK;have Er:=G Jo;have GU:=G za;have Jp:=G aH;have abg:=aH.size;clear hdone CK JP yO HD6 eY QB;by_cases aO:i<P2.length;case pos=>
  have k5:decide ((i:Int)<(P2.length:Int))=Z:=jO;have k6:(i:Int)<(P2.length:Int):=I;obtain⟨g,c',he⟩:=Um Jo I;injection he with e1 e2 e3;subst e1;subst e3;have iF:=Jo;rw[aeQ] at iF;have hx:=WU.E i (aC _) aO;have dK:l'.getD i ay∈l':=by rw[show l'.getD i ay=l'[i]'I by simp[dO,show i<l'.length by omega]];exact rF _
  have hq:=za _ dK;have hrm:P2.getD i ay∈P2:=SN aO;have aeU:jK (P2.getD i ay)=Z:=by have:=dI.E;unfold jT at this;rw[bq] at this;exact xD.1 this.1 _ hrm
  have bH:=ann aeU (uL.E _ hrm);have EL:=ahL (fJ b.g.jI) (P2.getD i ay) aeU (Ws _ P2 [] nR.E _ hrm);obtain⟨jV,hX⟩:∃jV,jV=l'.getD i ay:=⟨_,rfl⟩;have z0:=Q0 MF UC (k:=i) (j:=0) (u:=au ⟨(l'.getD i ay).1.name.toArray⟩) iF zM aO I rfl;have z1:=Q0 MF UC (k:=i) (j:=1) (u:=ax (l'.getD i ay).1.pair) iF zM aO I rfl;have z2:=Q0 MF UC (k:=i) (j:=2) (u:=(l'.getD i ay).2) iF zM aO I rfl;have hST:∀(w7:Y) (c1:mR) (v':ak),_:=λw7 c1 v' ho=>aB1 (w5:=w5) (w7:=w7) (B:=w5.heap.size) (base:=w5.heap.size) (g:=g) (c:=cc) (n:=P2.length) (i:=i) (l:=l') ho zM aO c1;have gP:=G hST;clear hST;rw[<-hX] at hx hq z0 z1 z2;rw[<-hX] at gP;obtain⟨X1,X2⟩:=jV;simp only[mZ] at hx hq z0 z1 z2;generalize hRe:P2.getD i ay=cK at*;have HRe:=G hRe;clear hRe;obtain⟨cn,cp1,is,OP⟩:∃nm pr is,oG cK=⟨nm,pr,is⟩:=⟨_,_,_,rfl⟩;have e1:cK.name=cn:=congrArg mR.name OP;have e2:cK.pair=cp1:=congrArg mR.pair OP;have e3:cR cK=is:=congrArg mR.ins OP;rw[e2,e3] at EL;rw[e3] at bH;rw[OP] at hx;subst hx;simp only[] at hq z0 z1;obtain⟨g2,cq,rfl⟩:∃g c,X2=O (N ⟨g,0,J⟩) is.length c:=Um hq bH.1;have HF:=G (axy ⟨cn.toArray⟩ cp1 g2 0 is.length cq is wo (um.own hq) rfl bH.1 bH.2 EL);have BQ:=(Jh Jo).2.1;have hgz:wo.frozen? ⟨g,0,J⟩=X:=by obtain⟨cur,hb,_⟩:=(Jh Jo).2.2;exact hb.frozen 0
  have HX:=G hX;have HCD:=G OP;clear hq iF Jo za EL dK hX OP e1 e2 e3 hrm aeU aH;obtain⟨xx,qM⟩:=bH;generalize bH:is.length=nI at*;unfold wZ at HF;go_wp2_with fail;refine HF.E.mono ?_;rintro e w7 ⟨v7,rfl,Mo,fF⟩;obtain⟨A7,c7,rfl⟩:=eO Mo;have aeV:=own_below Er.E fF;have HW:=G (gP.E w7 ⟨cn,cp1,wM is⟩ (O A7 (wM is).length c7) aeV rfl rfl (O A7 (wM is).length c7) (λq hq=>own_below (GU.E q hq) fF) (Kv Mo abg) (Jp.E.trans (fF.mono abg)) (aC _) ⟨cn.toArray⟩ rfl);have z70:=(fF.cell (p:=⟨g,i*3,J⟩) BQ).trans z0;have z71:=(fF.cell (p:=⟨g,i*3+1,J⟩) BQ).trans z1;have z72:=(fF.cell (p:=⟨g,i*3+2,J⟩) BQ).trans z2;have anh:=(Jh aeV).2.2.choose_spec.1.frozen;clear Mo fF aeV z0 z1 z2 hgz gP Jp Er GU HF;unfold wZ;go_wp2_with fail;obtain⟨q1,q2,q3⟩:=HW.E _ rfl;refine⟨⟨i+1,l'.set i (⟨cn,cp1,wM is⟩,O A7 (wM is).length c7),bR,I,by rw[U0];exact zM,λj hj=>?_,λj h1 h2=>?_,q1,q2,q3⟩,bW⟩
  ·rcases jl j i with h1|h1;·rw[<-HDO.E j h1,Et,Xf I,<-Et]
   obtain rfl:j=i:=by omega
   rw[HRe.E,HCD.E,Et,List.getElem?_set_self I];rfl
  rw[<-WU.E j I h2,Et,Xf I,<-Et]
 have hie:i=P2.length:=I;have k6:¬(i:Int)<(P2.length:Int):=I;have XL:af (∀j,j<P2.length->(l'.getD j ay).1=fC (oG (P2.getD j ay))):=λj hj=>HDO.E j I;have HCR:=G (aB3 Jo za zM rfl XL.E dI.E uL.E nR.E);have hent:∀j,j<b.g.ne->(ls.getD j ay).s.bD=(j:Int):=λj hj=>HN.E j I;have Uq:=G (ayR l' cA P2.length cc ls A b.g.ne c wo HCR.E aB8 ((QX.E.below aH).more abg) (by rw[HL.E];exact hke) h6 hent);rw[aBX (fJ b.g.jI) P2 dI.E nR.E l' XL.E] at Uq;clear Jo za HDO WU XL HCR Er GU;go_wp2_with fail;refine Uq.E.mono ?_;clear Uq;rintro e w8 ⟨yQ,v1,c1,rfl,hf1⟩;have wT:af (aeR (ls.any yY) (vL (Lx P2) (λi=>(P2.getD i ay).pair) (ls.map (·.s)) P2.length 0 []) wo w8 v1 c1):=hf1;have OI:=G (Jp.E.trans (yQ.mono abg));have Qk:=yQ.size;have HXI:=G (ay6 P2 dI.E uL.E (fJ b.g.jI) nR.E (λq=>q<w5.heap.size) Ap P2.length cp ls A b.g.ne c w8 (HE.E.after (bS OI.E fT.E)) (CS.E.keep (λq hq=>OI.E.block q hq) (λq hq=>hq)) (λq hq=>by omega) ((QX.E.below OI.E).more I) (by rw[HL.E];exact hke) h6 hent);rw[aBY (fJ b.g.jI) P2 nR.E] at HXI;clear hf1 yQ Jp aH;go_wp2_with fail;refine HXI.E.mono ?_;clear HXI;rintro e w9 ⟨rO,v2,c2,rfl,hf2⟩;obtain⟨rfl,ps,xE,fH,og⟩:=aB4 wT.E rO hf2;have jU:=G xE;have sI:=G fH;have yN:=G (OI.E.trans (rO.mono I));have Lj:=rO.size;have yB:af (∀x∈ps,(∃k:Int,(x.parts.map (·.2)).sum=18446744073709551616*k)/\∀q∈x.parts,fJ b.g.jI q.1=Z):=by
  show ∀_,_;rcases og with h|h;·exact aBZ (fJ b.g.jI) P2 dI.E nR.E _ ps h
  rw[h];intro x hx;cases hx
 have QW:=G (aBH ps v1 v2 wo.heap.size w8.heap.size w9 xE fH);clear hf2 rO xE fH og wT OI;go_wp2_with fail;refine QW.E.mono ?_;clear QW;rintro e pO ⟨rfl,aeW⟩;have Q8:=G (yN.E.trans (aeW.mono I));obtain⟨l1,el,o1,q1⟩:=jU.E.below aeW;obtain⟨A1,cv1,rfl⟩:=eO o1;have n1:l1.length=ps.length:=by rw[<-el,oz]
 have BM:=abe o1;have RD1:=G (Reads.uA o1);rw[n1] at RD1 BM |-;have TJ:af (∀k,k<ps.length->(l1.getD k ay).1=ps.getD k ay/\pO.ownsRow wo.heap.size 76 2 (l1.getD k ay).2 (ps.getD k ay).parts.length (Bg (ps.getD k ay).parts)):=λk hk=>by
  have hg:(l1.getD k ay).1=ps.getD k ay:=by rw[<-el];simp[dO,show k<l1.length by omega]
  refine⟨hg,?_⟩;rw[<-hg];exact q1 _ afC
 have Li:=G n1;have CQ:=G (Ee.E.below Q8.E Ee.E.lt);have Gu:af (∀(code:Int) (W:Y),aj pO.heap.size pO W->aF aa 15 #[aD (dx b.g),C D code] W λe w'=>(∃(a b' c d:Int),e=aI (bz #[aD #[C D a,C D b',C D c,C D d],ax (b.g.jI.any λx=>decide (x.code=code))]))/\aj W.heap.size W w'):=λcode W hW=>amz b.g code w.heap.size W ((HK.E.low (aC _) (bS hW (bS Q8.E fT.E))).gr.mH) (bS hW (bS Q8.E fT.E)).size HK.E.gr.nc;clear o1 q1 el n1 aeW jU sI yN QX CS;go_wp2_with fail;go_loopw [29] (λiv wr=>∃k:Nat,iv=C D k/\k<=ps.length/\aj pO.heap.size pO wr) (λiv _=>ps.length-(intOf iv).toNat);case atStart=>exact⟨0,rfl,I,bQ _⟩
 obtain⟨k',rfl,hk',hbq⟩:=hrel;obtain⟨wp,rfl⟩:=dz wr;have HBq:=G hbq;clear hbq;by_cases aO:k'<ps.length;case neg=>have k8:¬(k':Int)<(ps.length:Int):=I;go_wp2_with fail;go_ret;exact⟨rfl,bS HBq.E (bS Q8.E fT.E)⟩
 have k8:(k':Int)<(ps.length:Int):=I;obtain⟨a1,hA1,aB,c10,c11,c12,c13,c14⟩:=aeM RD1.E Li.E aO;obtain⟨g1,r1⟩:=TJ.E k' aO;have VD:=G (yB.E (ps.getD k' ay) (by simp[dO,aO]));clear c10 c11 c12 c13;generalize(l1.getD k' ay).2=u1 at*;clear g1;generalize ps.getD k' ay=pq at*;obtain⟨p0,p1,p2,pp⟩:=pq;simp only[] at c14 r1 VD;obtain⟨B1',d1,rfl⟩:=eO r1;have PR1:=G (Reads.uA r1);have hpm:=abe r1;clear r1;subst hA1;have tL:(a1.add (k'*5)).block<pO.heap.size:=by rw[Q9];exact aB
 go_wp2_with fail;go_loopw [30,31] (λsv jv wr=>∃j:Nat,sv=C D (OQ pp j)/\jv=C D j/\j<=pp.length/\aj pO.heap.size pO wr) (λ_ jv _=>pp.length-(intOf jv).toNat);case atStart=>exact⟨0,(by rw[aBU]),rfl,I,HBq.E⟩
 obtain⟨j,rfl,rfl,hj,eH⟩:=hrel;obtain⟨wz,rfl⟩:=dz wr;have Dz:=G eH;have hsz2:=eH.size;have y14:=(eH.cell (p:=⟨(a1.add (k'*5)).block,(a1.add (k'*5)).off+4,J⟩) tL).trans c14;clear eH HBq;by_cases vC:j<pp.length;case neg=>have k5:decide ((j:Int)<(pp.length:Int))=X:=fI;have k6:¬(j:Int)<(pp.length:Int):=I;obtain rfl:j=pp.length:=I;have hsm:=aBW VD.E.1;rw[hsm];go_wp2_with fail;exact⟨⟨k'+1,bR,I,Dz.E⟩,bW⟩
 have k6:(j:Int)<(pp.length:Int):=I;obtain⟨x1,o9,Co,CL,Ht⟩:=aeN PR1.E rfl vC;subst o9;have hstep:=aBV vC;have hacc:=aB0 _ _ (VD.E.2 (pp.getD j ay) (by simp[dO,vC]));generalize pp.getD j ay=y at*;obtain⟨y0,y1⟩:=y;simp only[] at CL Ht hstep hacc;have pM:(x1.add (j*2)).block<pO.heap.size:=by rw[Q9];exact Co
 have t11:=(Dz.E.cell (p:=⟨(x1.add (j*2)).block,(x1.add (j*2)).off+1,J⟩) pM).trans Ht;have HS:af (∀u,aj pO.heap.size pO u->u.rangeAt w.heap.size 0 (dx b.g).toList/\u.cell? ⟨(a1.add (k'*5)).block,(a1.add (k'*5)).off+4,J⟩=N (O (N x1) pp.length d1)/\u.cell? (x1.add (j*2))=N (C D y0)):=λu hu=>⟨Tm.E u w.heap.size (CQ.E.below hu CQ.E.lt),(hu.cell (p:=⟨(a1.add (k'*5)).block,(a1.add (k'*5)).off+4,J⟩) tL).trans c14,(hu.cell pM).trans CL⟩;go_upto_region 36 with fail;clear y14 t11;have Kw:=G (kD Dz.E);have hsd:pO.heap.size<=wz.drew.heap.size:=hsz2;have HA:af (∀W,aj pO.heap.size pO W->_):=λW hW=>Gu.E y0 W hW;rw[hacc] at HA;have HT0:=G (HS.E _ Kw.E);obtain⟨Ew,e2',e3'⟩:=HS.E _ Kw.E;generalize hGG:dx b.g=GG at*;have aB9:GG.size=21:=by rw[<-hGG];rfl
 refine iA (S:=λu=>u.rangeAt w.heap.size 0 GG.toList/\u.cell? ⟨(a1.add (k'*5)).block,(a1.add (k'*5)).off+4,J⟩=N (O (N x1) pp.length d1)/\u.cell? (x1.add (j*2))=N (C D y0)) dh ⟨Ew,e2',e3'⟩ (λbg=>?_);refine aA 0 ?_;refine Q7 1 29 (.tmp 208) w.heap.size 0 GG _ (λu h=>h.1) underlying29 rfl (by rw[JA,aB9]) ?_;refine aA 2 ?_;refine aA 3 ?_;refine aA 4 ?_;refine aA 5 ?_;refine aA 6 ?_;refine aA 7 ?_;refine aA 8 ?_;refine aA 9 ?_;refine aA 10 ?_;refine uF 11 15 (λK hK=>?_) (λK hK=>?_);·go_simp;refine(HA.E _ Kw.E).mono ?_;rintro e' w11 ⟨⟨z1,z2,z3,z4,rfl⟩,Rf⟩;have UE:=G (Kw.E.trans (Rf.mono hsd));have aDL:=Rf.size;clear Rf;go_simp;refine bF hK (HS.E _ UE.E) (λOG=>?_);clear hK K;refine aA 12 ?_;refine aA 13 ?_;refine aA 14 ?_;refine bK 15 (λK hK=>?_);go_simp;have aCa:=G (UE.E.alloc I (ag #[C D 0,C D 0,C D 0,C D 0] 78));have HV:=G (ai.new w11 78 #[C D 0,C D 0,C D 0,C D 0]);refine bF hK (HS.E _ aCa.E) (λaeo=>?_);clear hK K;refine bK 16 (λK hK=>?_);have iB:=HV.E.frozen;obtain⟨v0,v1,v2,v3⟩:=zB HV.E;go_simp;have oq:=G (UE.E.alloc I (ag #[C D z1,C D z2,C D z3,C D z4] 78));exact anp
 go_simp;have xH:=G (Kw.E.alloc hsd (ag #[C D 0,C D 0,C D 0,C D 0] 78));have HU:=G (ai.new wz.drew 78 #[C D 0,C D 0,C D 0,C D 0]);refine bF hK (HS.E _ xH.E) (λOG=>?_);clear hK K;refine bK 11 (λK hK=>?_);go_simp;refine(HA.E _ xH.E).mono ?_;rintro e' w11 ⟨⟨z1,z2,z3,z4,rfl⟩,Rf⟩;have UE:=G (xH.E.trans (Rf.mono (by have:=xH.E.size;omega)));have HV:af (ai w11 wz.heap.size 78 #[C D 0,C D 0,C D 0,C D 0]):=HU.E.below Rf HU.E.lt;clear Rf;go_simp;refine bF hK (HS.E _ UE.E) (λaeo=>?_);clear hK K;refine aA 12 ?_;refine aA 13 ?_;refine aA 14 ?_;refine bK 16 (λK hK=>?_);have iB:=HV.E.frozen;obtain⟨v0,v1,v2,v3⟩:=zB HV.E;go_simp;have oq:=G (Td (a:=C D z1) (b:=C D z2) (c:=C D z3) (d:=C D z4) UE.E (show pO.heap.size<=wz.heap.size by omega));exact anp
theorem lawWhole(b:jY)(s:ByteArray)(p:Int)(w:Y)(hE:Env w)(hb:Jk w w b):aF aa 3 #[aD (mJ b),.string s,p] w λe w'=>e=aI Z/\aj w w w':=by have h:=aB6 b s.data.toList p w hE hb;rwa [show(⟨s.data.toList.toArray⟩:ByteArray)=s by cases s;simp] at h
end Go.Proofs.YtgnflmdpalmejaaGreatDoor
