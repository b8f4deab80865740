/- Lemmas for the proof of WholeRules (the card is in the file ..WholeRulesCard); each lemma names its own conditions. -/
import Derived.Test.YtgnflmdpalmejaaGreatDoorA11
import Derived.Sort.OwnSortedInts
namespace Go.Proofs.YtgnflmdpalmejaaGreatDoor
open And renaming intro->bI
open _root_.Array renaming getElem?_eq_some_iff->JQ
open Bool renaming and_eq_true->bq,false->X,true->Z
open Go.Act renaming put->uB
open Go renaming Addr->aK,Calls->aF,TypeId->bM,Value->ak,World->Y,bodyPost_ret->eX,ownsRow_setCell_other->mO,wp_region_held_drew->iA
open Go.Ending renaming returned->aI
open Go.Instr renaming index->KW
open Go.IntKind renaming i64->D
open Go.Lib renaming compactUpTo->Lt
open Go.Obj renaming cells->ag
open Go.Region renaming ready->RJ,wanted->sZ
open Go.RowKit renaming Below->aj
open Go.RowKit.Below renaming heap_alloc->nK,refl->aN
open Go.Sort renaming ahead->QV
open Go.Value renaming agg->aD,bool->ax,int->C,pointer->aQ,slice->O,string->au,tuple->bz
open Go.World renaming cell?_of_block->He,ownsRow_nil->ng,size_alloc->aW
open Inhabited renaming default->ay
open List renaming all_eq_true->xD,drop_eq_getElem_cons->DY,eq_nil_of_length_eq_zero->O0,flatten_cons->Sr,getD->dO,getD_cons_zero->Ih,getElem?_cons_succ->iX,getElem?_cons_zero->iI,getElem?_toArray->iH,getElem_cons_succ->uE,getElem_cons_zero->uD,getElem_mem->rF,getElem_toArray->uC,length_append->eB,length_cons->iP,length_map->oz,length_replicate->Xd,length_singleton->mf,length_take->xq,map_append->oM,map_cons->kE,mem_append->pW,mem_cons->jZ,mem_map->qw,mem_singleton->lF,not_mem_nil->nJ,range->rQ,replicate->nU,setIfInBounds_toArray->pY,set_cons_succ->oP,set_cons_zero->oh,take_of_length_le->o7,take_succ_eq_append_getElem->sD
open Nat renaming add_zero->mZ,le_refl->aC,le_trans->ja,lt_of_lt_of_le->yA,mul_one->Oo
open Option renaming none->J,some->N
open Go.Proofs.Tryz renaming prog->aa
open Go.RowKit Go.Lib Go.Proofs.Tryz
set_option maxRecDepth 100000
set_option maxHeartbeats 32000000
set_option linter.unusedVariables false
set_option linter.unusedSimpArgs false
variable{A:Option aK}{B base c g i k mb n ob pb q:Nat}{R:Prop}{W W' W2 w w':Y}{d f v:ak}{tmps:Array ak}
theorem aaP{a b c e:ak}(h:ai w q 74 #[a,b,c,d,e])(h6:tmps.getD 6 undef=aQ q)(h7:tmps.getD 7 undef=f):
  (results f48 tmps).run aa w= .ok (bz #[aD #[a,b,c,d,e],f]) w:=by have c0:=h.cell 0;have c1:=h.cell 1;have c2:=h.cell 2;have c3:=h.cell 3;have c4:=h.cell 4;simp only[iH,iI,iX] at c0 c1 c2 c3 c4;have e6:(tmps[6]?).getD undef=aQ q:=U8;have e7:(tmps[7]?).getD undef=f:=U9;simp[results,results48,go_sem,c0,c1,c2,c3,c4,e6,e7]
theorem aef(w:Y)(a b c:Array ak)(S T U:bM):
  ai (((w.alloc (ag a S)).alloc (ag b T)).alloc (ag c U)) w S a/\ai (((w.alloc (ag a S)).alloc (ag b T)).alloc (ag c U)) (w.heap.size+1) T b/\ai (((w.alloc (ag a S)).alloc (ag b T)).alloc (ag c U)) (w.heap.size+2) U c:=by have h1:=((ai.new w S a).alloc (ag b T)).alloc (ag c U);have h2:=(ai.new (w.alloc (ag a S)) T b).alloc (ag c U);have h3:=ai.new ((w.alloc (ag a S)).alloc (ag b T)) U c;simp only[aW] at h2 h3;exact⟨h1,h2,h3⟩
theorem alJ(h:R:=by go_simp;refine bF hK trivial (λ_=>?_);clear hK K;refine bK 8 (λK hK=>?_);(refine Y8 _ rfl (.tmp 91) (.tmp 94) _ rfl q 3 i0 _ 1 8 underlying174 gz fu gq fG rfl I _ ls.length (ls.map (C D)) Jw (oJ.E.loc.alloc _) (w6.heap.size+1) (N ⟨w6.heap.size,0,J⟩) 1 1 [C D x] Jw (mX w6 #[C D x] 3 1 rfl) rZ lH I bB ?_);intro v7 w7 Kn EK aaQ;obtain⟨A7,c7,rfl⟩:=eO Kn;refine bF hK trivial (λ_=>?_);clear hK K;refine aA 9 ?_;refine aA 10 ?_;have QK:=(ai.alloc oJ.E.nH (ag #[C D x] 3)).grown EK (λe=>by have:=lJ oJ.E.loc _ e.symm;exact absurd this (by show ¬q<=mb;omega));have d8:w7.cell? ⟨mb,8,J⟩=N (O Al ls.length cl):=QK.cell 8;have df:=QK.frozen;have QO:=G (oJ.E.stored vW.E _ EK Kn aaQ);clear Kn EK aaQ QK y8;refine bK 11 (λK hK=>?_);go_simp;refine bF hK trivial (λ_=>?_);clear hK K;refine gI ?_;go_wp2_with fail;exact⟨⟨i+1,st,ls++ [x],ps,_,_,bR,I,QO.E,by rw[KN.E];exact Jv DK.E MP aG,by rw[KN.E];exact aya.symm.trans rV.E,I,OU,I⟩,bW⟩):R:=h
theorem alK(h:R:=by go_simp;refine bF hK trivial (λ_=>?_);clear hK K;refine bK 7 (λK hK=>?_);exact alJ):R:=h
theorem alL(h:R:=by go_wp2_with fail;go_meet;case rel=>subst hsv;exact⟨_,_,dH,v,rfl,rfl,oJ.E,λh=>ayb jQ.E h,λh=>⟨Jv DK.E MP aG,ayc jQ.E h⟩,I⟩):R:=h
theorem ayk(mb pb:Nat)(m:gF)(other:Int)(B:Nat)(w:Y)(hM:ru w mb m other (O J 0 0) pb 0)(hP:eD mE w pb [])(hm:m.ok w B)(hBm:B<=mb)(QP:B<=pb)
  (nm:List UInt8) (pr:Bool) (g n c:Nat) (is:List Ins) (hI:um w g 0 is) (hn:is.length=n) (hgm:g≠mb) (Ha:g≠pb) (jG:n<=100000000) (h0:0<n) (aX:je pr is 0 0=Z) (rl:Int):
  aF aa 48 #[aQ (N ⟨mb,0,J⟩),wZ ⟨nm.toArray⟩ pr (O (N ⟨g,0,J⟩) n c),C D rl] w (Km (vK (dQ (lS m.s other) is [] [] [])) m.s.bD other rl w.heap.size mb pb w):=by
 have pK:=hM.lt;have Bv:=hP.lt;have aY:mb≠pb:=λe=>adw hP hM e.symm;have BQ:=hI.lt (λz=>by rw[z] at hn;simp at hn;omega);have HN:=G hn;have HI:=G hI;have HM:=G hm;have alM:=G aX;obtain⟨i0,gz,fu,gq,fG⟩:=info_parts ac7;obtain⟨jE,hO⟩:∃jE,jE=dQ (lS m.s other) is [] [] []:=⟨_,rfl⟩;have HO:=G hO;rw[<-hO];obtain⟨cb,qZ⟩:∃cb,cb=w.heap.size:=⟨_,rfl⟩;obtain⟨rb,hrb⟩:∃rb,rb=w.heap.size+1:=⟨_,rfl⟩;obtain⟨sb,hsb⟩:∃sb,sb=w.heap.size+2:=⟨_,rfl⟩;obtain⟨q,hq⟩:∃q,q=w.heap.size+3:=⟨_,rfl⟩;obtain⟨w3,dF⟩:∃w3:Y,w3=((w.alloc (ag #[au ⟨nm.toArray⟩,ax pr,O (N ⟨g,0,J⟩) n c] 64)).alloc (ag #[C D 0,C D 0,C D 0,C D 0,O J 0 0] 74)).alloc (ag #[O J 0 0] 174):=⟨_,rfl⟩;have fM:w3.heap.size=q:=by rw[dF,hq];simp only[aW]
 have aR:aj w.heap.size w w3:=aeX;have vW:af (Uf.Ok ⟨mb,pb,sb,cb,rb,q,m,other,⟨nm.toArray⟩,pr,O (N ⟨g,0,J⟩) n c⟩ w):=by refine⟨pK,Bv,aY,?_,?_,?_,?_,?_,?_,?_,?_⟩<;>(dsimp only;omega)
 have RS0:af (qo ⟨mb,pb,sb,cb,rb,q,m,other,⟨nm.toArray⟩,pr,O (N ⟨g,0,J⟩) n c⟩ w [] [] [] (O J 0 0) (O J 0 0) w3):=by
  show qo _ _ _ _ _ _ _ _;refine⟨ai.below hM aR pK,ng _ _ _ _,hP.below aR Bv,⟨?_,ng _ _ _ _⟩,.inl rfl,?_,?_,mG.of_below aR,by dsimp only;omega⟩;·dsimp only;rw[dF,hsb];exact(aef w _ _ _ _ _ _).2.2
  ·dsimp only;rw[dF,qZ];exact(aef w _ _ _ _ _ _).1
  dsimp only;rw[dF,hrb];exact(aef w _ _ _ _ _ _).2.1
 have hmq:mb<q:=I;have hpq:pb<q:=I;have XA:sb<q:=I;have hcq:cb<q:=I;have hrq:rb<q:=I;have hwr:w.heap.size<=rb:=I;have hBs:B<=sb:=I;unfold wZ;go_enter func48,ntmps48;go_upto_region 3 with fail;simp only[show w.heap.size+1+1=w.heap.size+2 from rfl];rw[<-dF];rw[<-hsb,<-hrb,<-qZ];have hcw:w.heap.size<=cb:=I;have hcw2:cb<=w.heap.size:=I;clear hO dF hsb hrb qZ hq hM hP hm hI hn aX aR;have c2:w3.cell? ⟨cb,2,J⟩=N (O (N ⟨g,0,J⟩) n c):=RS0.E.OC.cell 2;go_wp2_with fail;go_loopw [19] (λiv wr=>∃(i:Nat) (dH ls:List Int) (ps:List (Int × Int)) (v gL:ak),iv=C D i/\i<=n/\qo ⟨mb,pb,sb,cb,rb,q,m,other,⟨nm.toArray⟩,pr,O (N ⟨g,0,J⟩) n c⟩ w dH ls ps v gL wr/\
  je pr (is.drop i) dH.length ls.length=Z/\dQ (lS m.s other) (is.drop i) dH ls ps=jE/\dH.length<=i/\ls.length<=i/\ps.length<=i) (λiv _=>n-(intOf iv).toNat)
 case atStart=>exact⟨0,[],[],[],O J 0 0,O J 0 0,rfl,I,RS0.E,alM.E,HO.E.symm,aC _,aC _,aC _⟩
 obtain⟨i,dH,ls,ps,v,gL,rfl,hi,hrs,EL,gu,xx,qM,rU⟩:=hrel;obtain⟨wo,rfl⟩:=dz wr;have eP:q<=wo.heap.size:=hrs.sz;have BI:=G hrs;clear c2 RS0 alM HO;by_cases aO:i<n;case neg=>have k3:decide ((i:Int)<(n:Int))=X:=fI;have hd:is.drop i= []:=List.drop_eq_nil_of_le (by have:=HN.E;omega);rw[hd] at gu;have HR:=G gu;have HB:=BI.E.uZ;have zf:=HB.frozen;have z0:wo.cell? ⟨rb,0,J⟩=N (C D 0):=HB.cell 0;have z1:wo.cell? ⟨rb,1,J⟩=N (C D 0):=HB.cell 1;have z2:wo.cell? ⟨rb,2,J⟩=N (C D 0):=HB.cell 2;have z3:wo.cell? ⟨rb,3,J⟩=N (C D 0):=HB.cell 3;have z4:wo.cell? ⟨rb,4,J⟩=N (O J 0 0):=HB.cell 4;clear hrs EL gu hd HB;go_wp2_with fail;refine eX (aaP (GJ BI.E.uZ) rfl rfl) rfl ⟨⟨_,_,_,_,_,_,rfl,?_⟩,BI.E.gK.xg (GK (aN _ _) hwr)⟩;rw[<-HR.E];exact⟨rfl,ng _ _ _ _,λh=>absurd rfl h⟩
 have k3:decide ((i:Int)<(n:Int))=Z:=jO;have b3:(i:Int)<(n:Int):=I;have dA:i<is.length:=U4;have hkeep:∀x,wo.cell? ⟨g,x,J⟩=w.cell? ⟨g,x,J⟩:=λx=>He (BI.E.gK.block g BQ hgm Ha);obtain⟨a0,a1,a2⟩:=HI.E i dA;rw[<-hkeep,Nat.zero_add] at a0 a1 a2;have Dm:is.drop i=is.getD i ay::is.drop (i+1):=by rw[DY dA];simp[dO,dA]
 have GL:=alg pr is i dH.length ls.length dA;rw[EL] at GL;rw[Dm] at gu;have HKC:=G GL;have rV:=G gu;clear hrs EL gu GL Dm hkeep dA;generalize CK:is.drop (i+1)=rest at HKC rV;have KN:=G CK;clear CK;generalize is.getD i ay=x at*;obtain⟨op,a,b⟩:=x;dsimp only at a0 a1 a2 HKC;go_upto_region 6 with fail;obtain⟨gx,hgx⟩:∃gx,gx=wo.heap.size:=⟨_,rfl⟩;obtain⟨wa,oK⟩:∃wa:Y,wa=wo.alloc (ag #[C D op,C D a,C D b] 142):=⟨_,rfl⟩;have XB:af (ai wa gx 142 #[C D op,C D a,C D b]):=by show ai _ _ _ _;rw[oK,hgx];exact ai.new wo _ _
 have jB:aj wo.heap.size wo wa:=Rh;have RS:=G (BI.E.below vW.E jB);have Mr:gx<wa.heap.size:=XB.E.lt;have hqx:q<=gx:=I;rw[<-oK,<-hgx];clear oK hgx jB eP a0 a1 a2 BI HN HI;have e0:wa.cell? ⟨gx,0,J⟩=N (C D op):=XB.E.cell 0;have e1:wa.cell? ⟨gx,1,J⟩=N (C D a):=XB.E.cell 1;have e2:wa.cell? ⟨gx,2,J⟩=N (C D b):=XB.E.cell 2;have GL:=HKC.E.symm;simp only[bq,decide_eq_true_eq] at GL;obtain⟨⟨⟨⟨⟨⟨GM,nT⟩,_⟩,alN⟩,GH⟩,_⟩,Bb⟩:=GL;have aaR:=G alN;have DK:=G Bb;have yS:af (m.ok wa B):=HM.E.below (RS.E.gK.below hBm QP I);have hcase:op=1\/op=2\/op=3\/op=4\/op=7\/op=23\/op=24\/op=25\/op=26\/(op=5\/op=6\/op=8\/op=9)\/(10<=op/\op<=22):=I;have XC:gx≠sb:=I;have ayl:gx≠mb:=I;have aym:gx≠pb:=I;have hBw:B<=wa.heap.size:=I;have hqa:q<=wa.heap.size:=I;clear alN Bb HKC;iterate 11 go_step
 go_cut [12,13] (λs12 s13 wx=>∃(u:Int) (bo:Bool) (st:List Int) (v':ak),s12=C D u/\s13=ax bo/\qo ⟨mb,pb,sb,cb,rb,q,m,other,⟨nm.toArray⟩,pr,O (N ⟨g,0,J⟩) n c⟩ w st ls ps v' gL wx/\
  (bo=X->jE= .err)/\(bo=Z->je pr rest (st.length+1) ls.length=Z/\dQ (lS m.s other) rest (u::st) ls ps=jE)/\st.length+1<=i+1)
 case rest=>
  obtain⟨u,bo,st,v',rfl,rfl,aeg,DZ,hgood,hls⟩:=hcut;clear RS XB e0 e1 e2 aaR DK yS hcase Mr rV GH;have hqc:q<=wc.heap.size:=aeg.sz;have OD:=G aeg;have HBAD:=G DZ;have aeh:=G hgood;have HB:=OD.E.uZ;have zf:=HB.frozen;have z0:wc.cell? ⟨rb,0,J⟩=N (C D 0):=HB.cell 0;have z1:wc.cell? ⟨rb,1,J⟩=N (C D 0):=HB.cell 1;have z2:wc.cell? ⟨rb,2,J⟩=N (C D 0):=HB.cell 2;have z3:wc.cell? ⟨rb,3,J⟩=N (C D 0):=HB.cell 3;have z4:wc.cell? ⟨rb,4,J⟩=N (O J 0 0):=HB.cell 4;have y8:wc.cell? ⟨sb,0,J⟩=N v':=OD.E.dH.1.cell 0;clear aeg DZ hgood HB;cases bo;case false=>have F:=G (HBAD.E rfl);clear HBAD aeh;go_wp2_with fail;refine eX (aaP (GJ OD.E.uZ) rfl rfl) rfl ⟨⟨_,_,_,_,_,_,rfl,?_⟩,OD.E.gK.xg (GK (aN _ _) hwr)⟩;rw[F.E];exact⟨rfl,rfl⟩
  have F:=G (aeh.E rfl);clear HBAD aeh z0 z1 z2 z3 z4 zf;go_wp2_with(at_builtin;refine pX _ rfl (.tmp 139) (.tmp 141) _ rfl q 3 i0 _ 1 8 underlying174 gz fu gq fG rfl I _ st.length (st.reverse.map (C D)) rfl (OD.E.dH.2.alloc _) (wc.heap.size+1) (N ⟨wc.heap.size,0,J⟩) 1 1 [C D u] rfl (mX wc #[C D u] 3 1 rfl) rZ lH I bB ?_;intro v6 w6 dw bU iT;obtain⟨A6,c6,rfl⟩:=eO dw;have oI:=(OD.E.dH.1.alloc (ag #[C D u] 3)).grown bU (λe=>by have:=lJ OD.E.dH.2 _ e.symm;exact absurd this (by show ¬q<=sb;omega));have d4:w6.cell? ⟨sb,0,J⟩=N v':=oI.cell 0;have df:=oI.frozen;have oJ:=G (OD.E.pushed vW.E _ bU dw iT);clear dw bU iT oI);exact⟨⟨i+1,u::st,ls,ps,_,_,bR,I,oJ.E,by rw[KN.E];exact F.E.1,by rw[KN.E];exact F.E.2,YH,I,I⟩,bW⟩
 rcases hcase with rfl|rfl|rfl|rfl|rfl|rfl|rfl|rfl|rfl|iY|⟨YR,YS⟩;·have F:=G (rc1.symm.trans rV.E);go_wp2_with fail;go_meet;exact⟨a,Z,dH,v,rfl,rfl,RS.E,nofun,λ_=>⟨Jv DK.E MP aG,F.E⟩,I⟩
 ·have F:=G (rc2.symm.trans rV.E);have rf:=ayd aaR.E;obtain⟨k,rfl⟩:∃k:Nat,a=(k:Int):=⟨a.toNat,I⟩;have dA:k<ls.length:=I;have bk:(k:Int)<(ls.length:Int):=rf.2;obtain⟨gl,cl,hloc,aDl,aDm⟩:=RS.E.loc.form I;subst hloc;have hlc:=Xt RS.E.loc;have y8:wa.cell? ⟨mb,8,J⟩=N (O (N ⟨gl,0,J⟩) ls.length cl):=ai.cell RS.E.nH 8;have yk:wa.cell? ⟨gl,k,J⟩=N (C D (ls.getD k 0)):=by rw[World.ownsRow.cellAt RS.E.loc k I];simp[dO,dA]
  rw[show((k:Int).toNat)=k from rfl] at F;obtain⟨xk,hxk⟩:∃x,x=ls.getD k 0:=⟨_,rfl⟩;rw[<-hxk] at yk F;clear rf hxk;go_upto_region 13 with fail;refine iA (S:=λW=>W.cell? ⟨mb,8,J⟩=N (O (N ⟨gl,0,J⟩) ls.length cl)/\W.cell? ⟨gx,1,J⟩=N (C D (k:Int))/\W.cell? ⟨gl,k,J⟩=N (C D xk)) dh ⟨y8,e1,yk⟩ (λbg=>?_);refine aA 0 ?_;refine aA 1 ?_;refine aA 2 ?_;refine aA 3 ?_;refine aA 4 ?_;refine aA 5 ?_;refine aA 6 ?_;refine aA 7 ?_;refine aA 8 ?_;refine gI ?_;clear bg y8 yk e0 e1 e2;go_wp2_with fail;go_meet;exact⟨xk,Z,dH,v,rfl,rfl,RS.E.below vW.E (below_drewN (aN _ _) 1),nofun,λ_=>⟨Jv DK.E MP aG,F.E⟩,I⟩
 ·have jQ:=G (rc3 rV.E);have jg:=G (aaN mb m other gL pb (vH ps) B wa RS.E.nH yS.E hBw a b (-1));unfold Xr at jg;generalize hsv:BX a b (-1) m.s.items 0=sv at jg;go_wp2_with fail;refine jg.E.mono ?_;rintro e' w6 ⟨rfl,dJ⟩;have oJ:=G (RS.E.below vW.E dJ);clear dJ;exact alL
 ·have jQ:=G (rc4 rV.E);have jg:=G (aaN mb m other gL pb (vH ps) B wa.drew (ai.drew RS.E.nH) (yS.E.below (below_drewN (aN _ _) 1)) hBw a b other);unfold Xr at jg;generalize hsv:BX a b other m.s.items 0=sv at jg;have y7:wa.cell? ⟨mb,7,J⟩=N (C D other):=ai.cell RS.E.nH 7;have hmw:mb<wa.heap.size:=I;go_upto_region 17 with fail;refine iA (S:=λW=>W.cell? ⟨mb,7,J⟩=N (C D other)/\W.cell? ⟨gx,1,J⟩=N (C D a)/\W.cell? ⟨gx,2,J⟩=N (C D b)) dh ⟨y7,e1,e2⟩ (λbg=>?_);refine aA 0 ?_;refine aA 1 ?_;refine aA 2 ?_;refine aA 3 ?_;refine aA 4 ?_;refine aA 5 ?_;refine aA 6 ?_;refine aA 7 ?_;refine aA 8 ?_;refine bK 9 (λK hK=>?_);go_simp;refine jg.E.mono ?_;rintro e' w6 ⟨rfl,dJ⟩;go_simp;refine bF hK (by exact⟨(dJ.cell hmw).trans y7,(dJ.cell Mr).trans e1,(dJ.cell Mr).trans e2⟩) (λayn=>?_);clear hK K;refine aA 10 ?_;refine aA 11 ?_;refine aA 12 ?_;refine aA 13 ?_;refine aA 14 ?_;refine gI ?_;have oJ:=G (RS.E.below vW.E (aU (below_drewN (aN _ _) 1) dJ));clear bg ayn y7 e0 e1 e2 dJ;exact alL
 ·cases dH with
  |nil=>exact absurd GH Va
  |cons x st=>have jQ:=G (rc7 rV.E);have gY:=G (QM sb q x st v wa RS.E.dH UO);simp only[iP] at xx;go_wp2_with fail;refine gY.E.mono ?_;rintro e' w6 ⟨rfl,u6,Cu,uo,pQ⟩;have nD:=RS.E.Mq vW.E Cu uo pQ;have xh:But sb wa w6:=nD.2;have oJ:=G nD.1;have wU:af (m.ok w6 B):=yS.E.below (xh.low hBs hBw);have HSH:=G (alz mb m other gL pb (vH ps) B w6 oJ.E.nH wU.E (ja hBw xh.size) x);unfold Dp at HSH;clear pQ uo nD gY;go_wp2_with fail;refine HSH.E.mono ?_;rintro e' w7 ⟨rfl,fF⟩;have QO:=G (oJ.E.below vW.E fF);clear fF;go_wp2_with fail;go_meet;exact⟨_,_,st,u6,rfl,rfl,QO.E,λh=>aed jQ.E h,λh=>⟨Jv DK.E MP aG,aee jQ.E h⟩,I⟩
 ·have Ms:=G (RS.E.below vW.E (below_drewN (aN _ _) 1));cases dH with
  |nil=>exact absurd GH Va
  |cons x st=>
   have gY:=G (QM sb q x st v wa.drew Ms.E.dH UO);simp only[iP] at xx;have y8:wa.cell? ⟨mb,8,J⟩=N gL:=ai.cell RS.E.nH 8;obtain⟨Al,cl,hloc⟩:=eO RS.E.loc;subst hloc;go_upto_region 21 with fail;refine iA (S:=λ_=>True) dh trivial (λbg=>?_);refine aA 0 ?_;refine aA 1 ?_;refine aA 2 ?_;refine aA 3 ?_;refine aA 5 ?_;refine uF 4 6 (λK hK=>?_) (λK hK=>?_);·go_simp;refine bF hK trivial (λ_=>?_);clear hK K;refine bK 6 (λK hK=>?_);go_simp;refine gY.E.mono ?_;rintro e' w6 ⟨rfl,u6,Cu,uo,pQ⟩;have nD:=Ms.E.Mq vW.E Cu uo pQ;have oJ:=G nD.1;have xh:But sb wa.drew w6:=nD.2;have Eg:q<=w6.heap.size:=ja hqa xh.size;have y8:w6.cell? ⟨mb,8,J⟩=N (O Al ls.length cl):=ai.cell oJ.E.nH 8;clear pQ uo nD gY xh;exact alK
   go_simp;refine gY.E.mono ?_;rintro e' w6 ⟨rfl,u6,Cu,uo,pQ⟩;have nD:=Ms.E.Mq vW.E Cu uo pQ;have oJ:=G nD.1;have xh:But sb wa.drew w6:=nD.2;have Eg:q<=w6.heap.size:=ja hqa xh.size;have y8:w6.cell? ⟨mb,8,J⟩=N (O Al ls.length cl):=ai.cell oJ.E.nH 8;clear pQ uo nD gY xh;go_simp;refine bF hK trivial (λ_=>?_);clear hK K;refine uF 4 7 (λK hK=>?_) (λK hK=>?_);·exact alK
   go_simp;refine bF hK trivial (λ_=>?_);clear hK K;have y8b:(w6.alloc (ag #[C D x] 3)).cell? ⟨mb,8,J⟩=N (O Al ls.length cl):=(ai.alloc oJ.E.nH (ag #[C D x] 3)).cell 8;refine bK 4 (λK hK=>?_);exact alJ
 ·cases dH with
  |nil=>exact absurd GH Va
  |cons x st=>
   have gY:=G (QM sb q x st v wa RS.E.dH UO);simp only[iP] at xx;have jQ:=G (rc24.symm.trans rV.E);by_cases wW:x=0
   ·subst wW;have F:af (jE= .nil):=by show _=_;rw[<-jQ.E,if_pos rfl]
    go_wp2_with fail;refine gY.E.mono ?_;rintro e' w6 ⟨rfl,u6,Cu,uo,pQ⟩;have nD:=RS.E.Mq vW.E Cu uo pQ;have oJ:=G nD.1;clear pQ uo nD gY;have HB:=oJ.E.uZ;have zf:=HB.frozen;have z0:w6.cell? ⟨rb,0,J⟩=N (C D 0):=HB.cell 0;have z1:w6.cell? ⟨rb,1,J⟩=N (C D 0):=HB.cell 1;have z2:w6.cell? ⟨rb,2,J⟩=N (C D 0):=HB.cell 2;have z3:w6.cell? ⟨rb,3,J⟩=N (C D 0):=HB.cell 3;have z4:w6.cell? ⟨rb,4,J⟩=N (O J 0 0):=HB.cell 4;clear HB;go_wp2_with fail;refine eX (aaP (GJ oJ.E.uZ) rfl rfl) rfl ⟨⟨_,_,_,_,_,_,rfl,?_⟩,oJ.E.gK.xg (GK (aN _ _) hwr)⟩;rw[F.E];exact⟨rfl,ng _ _ _ _,λh=>absurd rfl h⟩
   have k0:(x==0)=X:=by simpa using wW
   have F:=G ((if_neg wW).symm.trans jQ.E);clear wW;go_wp2_with fail;refine gY.E.mono ?_;rintro e' w6 ⟨rfl,u6,Cu,uo,pQ⟩;have nD:=RS.E.Mq vW.E Cu uo pQ;have oJ:=G nD.1;clear pQ uo nD gY;go_wp2_with fail;exact⟨⟨i+1,st,ls,ps,_,_,bR,I,oJ.E,by rw[KN.E];exact Jv DK.E MP aG,by rw[KN.E];exact F.E,I,I,I⟩,bW⟩
 ·have Ms:=G (RS.E.below vW.E (below_drewN (aN _ _) 1));cases dH with
  |nil=>exact absurd GH Va
  |cons x st=>have gY:=G (QM sb q x st v wa.drew Ms.E.dH UO);simp only[iP] at xx;go_upto_region 26 with fail;refine iA (S:=λW=>W.cell? ⟨gx,1,J⟩=N (C D a)) dh e1 (λbg=>?_);refine aA 0 ?_;refine aA 1 ?_;refine aA 2 ?_;refine aA 3 ?_;refine bK 4 (λK hK=>?_);go_simp;refine gY.E.mono ?_;rintro e' w6 ⟨rfl,u6,Cu,uo,pQ⟩;have nD:=Ms.E.Mq vW.E Cu uo pQ;have oJ:=G nD.1;have xh:But sb wa.drew w6:=nD.2;have e16:w6.cell? ⟨gx,1,J⟩=N (C D a):=(xh.cell (show gx<wa.drew.heap.size from Mr) XC).trans e1;have aei:gx<w6.heap.size:=yA Mr xh.size;have qP:=G (ad5 mb pb m other (vH ps) gL (mh ps) w6 oJ.E.nH oJ.E.map a x (aye aaR.E));clear pQ uo nD gY xh;go_simp;refine bF hK (by exact e16) (λaDn=>?_);clear hK K;refine bK 5 (λK hK=>?_);go_simp;refine qP.E.mono ?_;rintro e' w7 ⟨rfl,hm7,Ug,Mo⟩;have QO:=G (oJ.E.aec vW.E hm7 Ug Mo);have e17:w7.cell? ⟨gx,1,J⟩=N (C D a):=(He (Mo.block gx aei ayl aym)).trans e16;clear hm7 Ug Mo;go_simp;refine bF hK (by exact e17) (λaDo=>?_);clear hK K;refine gI ?_;clear e0 e1 e2;go_wp2_with fail;exact⟨⟨i+1,st,ls,ps++ [(a,x)],_,_,bR,I,QO.E,by rw[KN.E];exact Jv DK.E MP aG,by rw[KN.E];exact rc25.symm.trans rV.E,I,I,OU⟩,bW⟩
 ·have F:=G (rc26.symm.trans rV.E);have nC:=alG ps;have kN:=G (alC mb pb m other (vH ps) gL (mh ps) wa RS.E.nH RS.E.map a rl (ayf aaR.E) I);rw[<-alB] at kN;have F2:af (vK jE=vK (.fin ps a)):=by show _=_;rw[<-F.E]
  clear nC;generalize vK (.fin ps a)=fo at kN F2;go_wp2_with fail;refine kN.E.mono ?_;rintro e' w6 ⟨⟨v0,kd,f1,f2,f3,fc,rfl,kT⟩,rW⟩;have Bc:∃A n' c',v0=O A n' c':=by
   cases fo with
   |none=>exact⟨_,_,_,kT.2⟩
   |some ps=>obtain⟨A,c',e⟩:=eO kT.2.1;exact⟨_,_,_,e⟩
  obtain⟨A0,n0,c0,rfl⟩:=Bc;have GN:=G kT;have qN:=G (RS.E.gK.trans rW);have HB:af (ai w6 rb 74 #[C D 0,C D 0,C D 0,C D 0,O J 0 0]):=RS.E.uZ.gK rW (by dsimp only;omega) (by dsimp only;omega);have zf:=HB.E.frozen;have z0:w6.cell? ⟨rb,0,J⟩=N (C D 0):=HB.E.cell 0;have z1:w6.cell? ⟨rb,1,J⟩=N (C D 0):=HB.E.cell 1;have z2:w6.cell? ⟨rb,2,J⟩=N (C D 0):=HB.E.cell 2;have z3:w6.cell? ⟨rb,3,J⟩=N (C D 0):=HB.E.cell 3;have z4:w6.cell? ⟨rb,4,J⟩=N (O J 0 0):=HB.E.cell 4;clear kT rW;go_wp2_with fail;refine eX (aaP (GJ HB.E) rfl rfl) rfl ⟨⟨_,_,_,_,_,_,rfl,?_⟩,qN.E.xg (GK (aN _ _) hwr)⟩;rw[F2.E];have hr:=GN.E;cases fo with
  |none=>exact hr
  |some pp=>exact⟨hr.1,aaO (Fj hr.2.1 I) (λe=>by have:=lJ hr.2.1 _ e;omega) _ _ _ _ _,hr.2.2⟩
 ·have Ms:=G (RS.E.below vW.E (below_drewN (aN _ _) 1));rcases iY with rfl|rfl|rfl|rfl;all_goals
   cases dH with
   |nil=>exact absurd GH Va
   |cons x st=>have gY:=G (QM sb q x st v wa.drew Ms.E.dH UO);simp only[iP] at xx;have jQ:=G (rcU aL rV.E);go_upto_region 33 with fail;refine iA (S:=λW=>W.cell? ⟨gx,0,J⟩=N (C D _)/\W.cell? ⟨gx,1,J⟩=N (C D a)) dh ⟨e0,e1⟩ (λbg=>?_);refine aA 0 ?_;refine aA 1 ?_;refine aA 2 ?_;refine aA 3 ?_;refine aA 4 ?_;refine bK 5 (λK hK=>?_);go_simp;refine gY.E.mono ?_;rintro e' w6 ⟨rfl,u6,Cu,uo,pQ⟩;have nD:=Ms.E.Mq vW.E Cu uo pQ;have oJ:=G nD.1;have xh:But sb wa.drew w6:=nD.2;have QQ:=(xh.cell (p:=⟨gx,0,J⟩) (show gx<wa.drew.heap.size from Mr) XC).trans e0;have e16:w6.cell? ⟨gx,1,J⟩=N (C D a):=(xh.cell (show gx<wa.drew.heap.size from Mr) XC).trans e1;have AQ:=G (λo=>WZ o a x 0 w6);unfold adD Dp at AQ;clear pQ uo nD gY xh;go_simp;refine bF hK (by exact⟨QQ,e16⟩) (λaDp=>?_);clear hK K;refine bK 6 (λK hK=>?_);go_simp;refine(AQ.E _).mono ?_;rintro e' w7 ⟨rfl,rfl⟩;go_simp;refine bF hK (by exact⟨QQ,e16⟩) (λaDq=>?_);clear hK K;refine aA 7 ?_;refine aA 8 ?_;refine aA 9 ?_;refine aA 10 ?_;refine aA 11 ?_;refine gI ?_;clear QQ e16 e0 e1 e2;go_wp2_with fail;go_meet;exact⟨_,_,st,u6,rfl,rfl,oJ.E,λh=>aed jQ.E h,λh=>⟨Jv DK.E MP aG,aee jQ.E h⟩,I⟩
 cases dH with
 |nil=>exact absurd GH afq
 |cons x st=>
  cases st with
  |nil=>exact absurd GH afq
  |cons y st=>have jQ:=G (rcB YR YS rV.E);have gY:=G (QM sb q x (y::st) v wa RS.E.dH (by simp only[iP] at xx |-;omega));simp only[iP] at xx;have kq1:(op==1)=X:=iO;have kq2:(op==2)=X:=iO;have kq3:(op==3)=X:=iO;have kq4:(op==4)=X:=iO;have kq5:(op==5)=X:=iO;have kq6:(op==6)=X:=iO;have kq7:(op==7)=X:=iO;have kq8:(op==8)=X:=iO;have kq9:(op==9)=X:=iO;have aDr:(op==23)=X:=iO;have aDs:(op==24)=X:=iO;have aDt:(op==25)=X:=iO;have aDu:(op==26)=X:=iO;have hok2:af (je pr rest (st.length+1) ls.length=Z):=Jv DK.E (by rw[afr YR YS,ayg YR YS];simp) (by rw[if_neg I,mZ]);go_wp2_with fail;refine gY.E.mono ?_;rintro e' w6 ⟨rfl,u6,Cu,uo,pQ⟩;have nD:=RS.E.Mq vW.E Cu uo pQ;have oJ:=G nD.1;have alO:=G (oJ.E.below vW.E (below_drewN (aN _ _) 1));have xh:But sb wa w6:=nD.2;have QQ:w6.cell? ⟨gx,0,J⟩=N (C D op):=(xh.cell (show gx<wa.heap.size from Mr) XC).trans e0;have aei:gx<w6.heap.size:=yA Mr xh.size;have alP:=G (QM sb q y st u6 w6.drew alO.E.dH I);clear pQ uo nD gY xh e0 e1 e2;go_upto_region 9 with fail;refine iA (S:=λW=>W.cell? ⟨gx,0,J⟩=N (C D op)) dh QQ (λbg=>?_);refine aA 0 ?_;refine aA 1 ?_;refine aA 2 ?_;refine aA 4 ?_;refine bK 3 (λK hK=>?_);go_simp;refine alP.E.mono ?_;rintro e' w7 ⟨rfl,u7,hu7,alQ,sj⟩;have Ug:=alO.E.Mq vW.E hu7 alQ sj;have QO:=G Ug.1;have alR:But sb w6.drew w7:=Ug.2;have e07:w7.cell? ⟨gx,0,J⟩=N (C D op):=(alR.cell (show gx<w6.drew.heap.size from aei) XC).trans QQ;have AQ:=G (WZ op 0 y x w7);unfold adD Dp at AQ;clear sj alQ Ug alP alR;go_simp;refine bF hK (by exact e07) (λaDv=>?_);clear hK K;refine bK 5 (λK hK=>?_);go_simp;refine AQ.E.mono ?_;rintro e' w8 ⟨rfl,rfl⟩;go_simp;refine bF hK (by exact e07) (λaDw=>?_);clear hK K;refine aA 6 ?_;refine aA 7 ?_;refine aA 8 ?_;refine aA 9 ?_;refine aA 10 ?_;refine gI ?_;clear QQ e07;go_wp2_with fail;go_meet;exact⟨_,_,st,u7,rfl,rfl,QO.E,λh=>aed jQ.E h,λh=>⟨hok2.E,aee jQ.E h⟩,I⟩
def XD(p:jh)(v:ak):List ak:= [C D 10,C D p.bD,C D p.gK,C D p.rule,v]
def OE(l:List (jh × ak)):List ak:=(l.map λq=>XD q.1 q.2).flatten
theorem ayo(l:List (jh × ak))(p:jh)(v:ak):OE (l++ [(p,v)])=OE l++XD p v:=by simp[OE]
theorem ayp:(aa.info? 74).map (λi=>(i.zero,i.size,i.bytes))=N (N (aD #[C D 0,C D 0,C D 0,C D 0,O J 0 0]),5,56):=by kernel_rfl
def ayq(W:Y)(B:Nat)(l:List (jh × ak)):Prop:=∀q∈l,W.ownsRow B 76 2 q.2 q.1.parts.length (Bg q.1.parts)
def yV(W:Y)(B:Nat)(v:ak)(ps:List jh):Prop:=∃l:List (jh × ak),l.map (·.1)=ps/\W.ownsRow B 74 5 v l.length (OE l)/\ayq W B l
theorem yV.below{ps:List jh}(h:yV W B v ps)(hb:aj W W W'):yV W' B v ps:=by obtain⟨l,e,h1,h2⟩:=h;exact⟨l,e,own_below h1 hb,λq hq=>own_below (h2 q hq) hb⟩
theorem yV.mono{B':Nat}{ps:List jh}(h:yV W B v ps)(hb:B'<=B):yV W B' v ps:=by obtain⟨l,e,h1,h2⟩:=h;exact⟨l,e,Fj h1 hb,λq hq=>Fj (h2 q hq) hb⟩
structure GQ(B ob:Nat)(v:ak)(out:List jh)(w W:Y):Prop where
 low:aj B w W
 le:B<=ob
 box:ai W ob 67 #[v]
 aej:yV W B v out
theorem GQ.below{out:List jh}(h:GQ B ob v out w W)(hb:aj W W W'):GQ B ob v out w W':=⟨h.low.trans (hb.mono (by have:=h.box.lt;have:=h.le;omega)),h.le,h.box.below hb h.box.lt,h.aej.below hb⟩
def Kp(s ob:Nat)(W W':Y):Prop:=W.heap.size<=W'.heap.size/\∀g T cs,g<s->ai W g T cs->T≠74->g≠ob->ai W' g T cs
theorem Kp.refl(s ob:Nat)(W:Y):Kp s ob W W:=⟨aC _,λ_ _ _ _ h _ _=>h⟩
theorem Kp.trans{s:Nat}(h:Kp s ob W W')(k:Kp s ob W' W2):Kp s ob W W2:=⟨ja h.1 k.1,λg T cs a0 hx a1 a2=>k.2 g T cs a0 (h.2 g T cs a0 hx a1 a2) a1 a2⟩
theorem Kp.low{s s':Nat}(h:Kp s ob W W')(hs:s'<=s):Kp s' ob W W':=⟨h.1,λg T cs a0=>h.2 g T cs I⟩
theorem Kp.gK{s:Nat}(h:mG mb pb W W')(h1:s<=mb)(h2:s<=pb):Kp s ob W W':=⟨h.size,λg T cs a0 hb _ _=>hb.gK h I I⟩
theorem Kp.of{s:Nat}(hb:aj W W W'):Kp s ob W W':=⟨hb.size,λg T cs a0 hx _ _=>hx.below hb hx.lt⟩
theorem Kp.nM{s:Nat}(h:Kp s ob W W')(hb:aj W' W' W2):Kp s ob W W2:=h.trans (Kp.of hb)
theorem Kp.grown{s:Nat}{z:Nat}{xs:List ak}(h:Kp s ob W W')(ho:W'.ownsRow B 74 z v n xs)(hg:W'.grownBy W2 v.ownBlock):Kp s ob W W2:=h.trans ⟨hg.size,λg T cs _ hx a1 _=>hx.grown hg λe=>iQ ho hx (λe=>a1 e.symm) e.symm⟩
theorem Kp.set{s:Nat}(h:Kp s ob W W')(u:ak):Kp s ob W (W'.setCell ⟨ob,0,J⟩ u):=h.trans ⟨aG,λg T cs _ hx _ a2=>hx.far (p:=⟨ob,0,J⟩) a2 u⟩
theorem alS(out:List jh)(e o k:Int)(ps:List (Int × Int)):(Da out e o k ps).length<=out.length+1:=by
 unfold Da;split;·omega
 simp
def alT(o:Option (List (Int × Int)))(bD gK k:Int)(B ob s:Nat)(out:List jh)(w W:Y)(e:Ending)(W':Y):Prop:=
 ∃v' mQ,GQ B ob v' mQ w W'/\Kp s ob W W'/\((o=J/\e=aI (C D 2))\/∃ps,o=N ps/\e=aI (C D 0)/\mQ=Da out bD gK k ps)
theorem ayr(Fr:FuncId)(pc:ak)(oo:∀(args:Array ak) (w:Y),(callFunc Fr args).run aa w= .ok (.enter Fr args) w)
  (o:Option (List (Int × Int))) (B ob rb kb mb pb:Nat) (k bD other:Int) (v:ak) (out:List jh) (w W0 W:Y) (hJ:GQ B ob v out w W0) (hW:aj W0.heap.size W0 W) (h1:W0.heap.size<=mb) (h2:W0.heap.size<=pb)
  (hrb:ai W rb 154 #[.func (.func Fr) #[] #[pc]]) (qW:ai W kb 3 #[C D k]) (hl:out.length<=1000000)
  (HR:aF aa Fr #[aQ (N ⟨mb,0,J⟩),C D k,pc] W (Km o bD other k W.heap.size mb pb W)):
  aF aa 97 #[aQ (N ⟨mb,0,J⟩),aQ (N ⟨rb,0,J⟩),aQ (N ⟨kb,0,J⟩),aQ (N ⟨ob,0,J⟩)] W (alT o bD other k B ob W0.heap.size out w W):=by
 obtain⟨i0,gz,fu,gq,fG⟩:=info_parts ayp;have y1:W.cell? ⟨rb,0,J⟩=N (.func (.func Fr) #[] #[pc]):=hrb.cell 0;have y2:W.cell? ⟨kb,0,J⟩=N (C D k):=qW.cell 0;have HJ:=G hJ;have HW:=G hW;have F7:=G HR;clear hJ hW HR hrb qW;go_enter func97,ntmps97;go_wp2_with fail;refine F7.E.mono ?_;rintro e w1 ⟨⟨v1,kd,e1,o1,r1,c,rfl,kT⟩,ho⟩;have hW1:aj W0.heap.size W0 w1:=HW.E.trans (ho.below h1 h2 HW.E.size);have wH:Kp W0.heap.size ob W w1:=Kp.gK ho h1 h2;have lY:=HW.E.size;clear ho F7 y1 y2;have hv:∃A n cp,v1=O A n cp:=by
  cases o with
  |none=>exact⟨J,0,0,kT.2⟩
  |some ps=>obtain⟨A,cp,e⟩:=eO kT.2.1;exact⟨A,_,cp,e⟩
 obtain⟨A1,n1,c1,rfl⟩:=hv;have HC:=G (HJ.E.below (hW1.alloc hW1.size (ag #[C D kd,C D e1,C D o1,C D r1,O A1 n1 c1] 74)));have HK:=G (wH.nM ((aN _ _).alloc (aC _) (ag #[C D kd,C D e1,C D o1,C D r1,O A1 n1 c1] 74)));by_cases h0:0<n1;case neg=>
  have BI:af (∃cc:Int,c=cc/\((o=J/\cc=2)\/∃ps,o=N ps/\cc=0/\out=Da out bD other k ps)):=by
   show _;refine⟨c,rfl,?_⟩;cases o with
   |none=>exact .inl ⟨rfl,kT.1⟩
   |some ps=>refine .inr ⟨ps,rfl,kT.1,?_⟩;have e2:=kT.2.1;obtain⟨A',c',e3⟩:=eO e2;injection e3 with _ e4 _;have:ps= []:=O0 I;subst this;rfl
  clear kT wH hW1;obtain⟨cc,rfl,hr⟩:=BI.E;have jy:=G hr;clear hr;go_wp2_with fail;go_ret;rcases jy.E with⟨a,rfl⟩|⟨ps,a,rfl,d⟩;·exact⟨v,out,HC.E,HK.E,.inl ⟨a,rfl⟩⟩
  exact⟨v,out,HC.E,HK.E,.inr ⟨ps,a,rfl,d⟩⟩
 have k0:decide ((n1:Int)>0)=Z:=jO;cases o with
 |none=>obtain⟨_,e⟩:=kT;injection e with _ e _;omega
 |some ps=>
  obtain⟨rfl,aV,aY⟩:=kT;obtain⟨A',c',e3⟩:=eO aV;injection e3 with e5 e4 e6;subst e5 e4 e6;obtain⟨rfl,rfl,rfl,rfl⟩:=aY (λe=>by rw[e] at h0;exact absurd h0 aG);have HPE:af (Da out e1 o1 r1 ps=out++ [⟨e1,o1,r1,ps⟩]):=by show _=_;unfold Da;rw[if_neg (by intro e;rw[List.isEmpty_iff] at e;rw[e] at h0;exact absurd h0 aG)]
  obtain⟨low,le,box,l,fO,iF,lM⟩:=HC.E;obtain⟨Ao,co,rfl⟩:=eO iF;have BO:l.length<=1000000:=by rw[<-oz (f:=(·.1)),fO];exact hl
  have yo:(w1.alloc (ag #[C D 10,C D e1,C D o1,C D r1,O A1 ps.length c1] 74)).cell? ⟨ob,0,J⟩=N (O Ao l.length co):=box.cell 0;have hob:ob<w1.heap.size:=(HJ.E.below hW1).box.lt;have lU:=G (Fj aV (show B<=W.heap.size by have:=HJ.E.box.lt;have:=HJ.E.le;omega));have HX:=G (bI box (bI iF (bI lM (bI low fO))));clear box iF lM low fO aV aY wH hW1 HJ HW;go_wp2_with(at_builtin;refine pX _ rfl (.tmp 19) (.tmp 21) _ rfl B 74 i0 _ 5 56 underlying67 gz fu gq fG rfl I _ l.length (OE l) rfl (HX.E.2.1.alloc _) (w1.heap.size+2) (N ⟨w1.heap.size+1,0,J⟩) 1 1 [C D 10,C D e1,C D o1,C D r1,O A1 ps.length c1] rfl (by have h:=mX (w1.alloc (ag #[C D 10,C D e1,C D o1,C D r1,O A1 ps.length c1] 74)) #[C D 10,C D e1,C D o1,C D r1,O A1 ps.length c1] 74 5 rfl;simpa using h) rZ lH I bB ?_;intro v6 w6 dw bU iT;have oI:=(HX.E.1.alloc (ag #[C D 10,C D e1,C D o1,C D r1,O A1 ps.length c1] 74)).grown bU (λe=>iQ (HX.E.2.1.alloc (ag #[C D 10,C D e1,C D o1,C D r1,O A1 ps.length c1] 74)) (HX.E.1.alloc _) aL e.symm);have d0:w6.cell? ⟨ob,0,J⟩=N (O Ao l.length co):=oI.cell 0;have df:=oI.frozen;obtain⟨A6,c6,rfl⟩:=eO dw;have oL:=G (bI dw (bI bU oI));clear dw bU iT oI);go_ret;obtain⟨dw,bU,oI⟩:=oL.E;obtain⟨_,iF,lM,low,fO⟩:=HX.E;have acn:=iQ dw oI aL;have KZ:=(low.alloc (by have:=low.size;have:=HX.E.1.lt;omega) (ag #[C D 10,C D e1,C D o1,C D r1,O A1 ps.length c1] 74)).trans (tu (iF.alloc _) bU bB);refine⟨O A6 (l.length+1) c6,out++ [⟨e1,o1,r1,ps⟩],⟨KZ.setCell (p:=⟨ob,0,J⟩) le _,le,by have hk:=oI.bL 0 (O A6 (l.length+1) c6);simpa using hk,l++ [(⟨e1,o1,r1,ps⟩,O A1 ps.length c1)],by simp[fO],?_,λq hq=>?_⟩,
   ((HK.E.nM ((aN _ _).alloc (aC _) _)).grown (iF.alloc _) bU).set _,.inr ⟨ps,rfl,rfl,HPE.E.symm⟩⟩
  ·rw[eB,mf,ayo];exact mO (a:=⟨ob,0,J⟩) dw acn _
  have h6:w6.ownsRow B 76 2 q.2 q.1.parts.length (Bg q.1.parts):=by
   rcases pW.1 hq with hq|hq;·exact aay ((lM q hq).alloc _) (iF.alloc _) aL bU
   rw[lF] at hq;subst hq;exact aay ((lU.E.alloc _).alloc _) (iF.alloc _) aL bU
  exact mO (a:=⟨ob,0,J⟩) h6 (iQ h6 oI aL) _
section
variable{F:lh->Int->Option (List (Int × Int))}{pair:Bool}{L:List lh}{k e:Int}{i:Nat}{out:List jh}{f:Int->Option (List (Int × Int))}
theorem drop_cons{l:List gF}(hi:i<l.length):(l.map (·.s)).drop i=(l.getD i ay).s::(l.map (·.s)).drop (i+1):=by rw[DY (by rw[oz];exact hi)];simp[dO,hi]
theorem ays{s:lh}{r:List lh}(h:s.full=X):yK F pair L k (s::r) out=yK F pair L k r out:=by rw[yK,if_pos h]
theorem ayt{s:lh}{r:List lh}(h:s.full=Z)(hp:pair=X):yK F pair L k (s::r) out=match F s (-1) with|J=>J|N ps=>yK F pair L k r (Da out s.bD (-1) k ps):=by rw[yK,if_neg (by simp[h]),if_pos hp];cases F s (-1)<;>rfl
theorem ayu{s:lh}{r:List lh}(h:s.full=Z)(hp:pair=Z):yK F pair L k (s::r) out=match BZ (F s) s.bD k L out with|J=>J|N o=>yK F pair L k r o:=by rw[yK,if_neg (by simp[h]),if_neg (by simp[hp])];cases BZ (F s) s.bD k L out<;>rfl
theorem ayv{o:lh}{r:List lh}(h:o.full=X\/o.bD=e):BZ f e k (o::r) out=BZ f e k r out:=by rw[BZ,if_pos h]
theorem ayw{o:lh}{r:List lh}(h:o.full=Z)(h2:o.bD≠e):BZ f e k (o::r) out=match f o.bD with|J=>J|N ps=>BZ f e k r (Da out e o.bD k ps):=by rw[BZ,if_neg (by simp[h,h2])];cases f o.bD<;>rfl
end
def ayx(cK:Option (List jh))(B ob:Nat)(out:List jh)(w W:Y)(e:Ending)(W':Y):Prop:=
 ∃v' mQ,GQ B ob v' mQ w W'/\Kp W ob W W'/\((cK=J/\e=aI (C D 2))\/(cK=N mQ/\e=aI (C D 0)/\mQ.length<=out.length+256))
theorem alU(W:Y)(m:gF)(other:Int):ru ((W.alloc (.map #[] 0)).alloc (ag #[m.s.bD,m.s.full,m.nn,m.nm,m.dn,m.dm,m.it,other,O J 0 0,.map (N W),C D 0] 215)) (W.heap.size+1) m other (O J 0 0) W 0/\
  eD mE ((W.alloc (.map #[] 0)).alloc (ag #[m.s.bD,m.s.full,m.nn,m.nm,m.dn,m.dm,m.it,other,O J 0 0,.map (N W),C D 0] 215)) W []/\
  aj W W ((W.alloc (.map #[] 0)).alloc (ag #[m.s.bD,m.s.full,m.nn,m.nm,m.dn,m.dm,m.it,other,O J 0 0,.map (N W),C D 0] 215)):=by refine⟨?_,(eD.made (M:=mE) W).alloc _,((aN _ _).alloc (aC _) _).alloc bB _⟩;have h:=ai.new (W.alloc (.map #[] 0)) 215 #[m.s.bD,m.s.full,m.nn,m.nm,m.dn,m.dm,m.it,other,O J 0 0,.map (N W),C D 0];rw[aW] at h;exact h
theorem aaS{l:List gF}(h:Bf w B A n l)(hk:k<n)(hl:l.length=n):
  ∃ad,A=N ad/\ad.block<B/\∃s b1 A1 n1 c1 b2 A2 n2 c2 A3 n3 c3,l.getD k ay=⟨s,ax b1,O A1 n1 c1,ax b2,O A2 n2 c2,O A3 n3 c3⟩/\
   w.cell? (ad.add (k*7))=N (C D s.bD)/\w.cell? ⟨(ad.add (k*7)).block,(ad.add (k*7)).off+1,J⟩=N (ax s.full)/\w.cell? ⟨(ad.add (k*7)).block,(ad.add (k*7)).off+2,J⟩=N (ax b1)/\w.cell? ⟨(ad.add (k*7)).block,(ad.add (k*7)).off+3,J⟩=N (O A1 n1 c1)/\
   w.cell? ⟨(ad.add (k*7)).block,(ad.add (k*7)).off+4,J⟩=N (ax b2)/\w.cell? ⟨(ad.add (k*7)).block,(ad.add (k*7)).off+5,J⟩=N (O A2 n2 c2)/\w.cell? ⟨(ad.add (k*7)).block,(ad.add (k*7)).off+6,J⟩=N (O A3 n3 c3):=by
 obtain⟨ad,rfl,hb,hc⟩:=Reads.seven (f:=gF.row) (λ_=>rfl) h.1 hk ay;have hm:l.getD k ay∈l:=by
  have:l.getD k ay=l[k]'I:=by simp[dO,show k<l.length by omega]
  rw[this];exact rF _
 obtain⟨h1,h2,_,_,_,h6⟩:=h.2 _ hm;obtain⟨e1,A1,n1,c1,e2⟩:=h1.forms;obtain⟨e3,A2,n2,c2,e4⟩:=h2.forms;obtain⟨A3,n3,c3,e5,_⟩:=h6;generalize l.getD k ay=m at*;obtain⟨s,nn,nm,dn,dm,it⟩:=m;have f1:nn=ax (decide (s.sa<0)):=e1;have f2:nm=O A1 n1 c1:=e2;have f3:dn=ax (decide (s.sb<0)):=e3;have f4:dm=O A2 n2 c2:=e4;have f5:it=O A3 n3 c3:=e5;clear e1 e2 e3 e4 e5 h1 h2;subst f1 f2 f3 f4 f5;have g0:=hc 0 _ I rfl;have g1:=hc 1 _ I rfl;have g2:=hc 2 _ I rfl;have g3:=hc 3 _ I rfl;have g4:=hc 4 _ I rfl;have g5:=hc 5 _ I rfl;have g6:=hc 6 _ I rfl;rw[<-mW,nS _ 1 I] at g1;rw[<-mW,nS _ 2 I] at g2;rw[<-mW,nS _ 3 I] at g3;rw[<-mW,nS _ 4 I] at g4;rw[<-mW,nS _ 5 I] at g5;rw[<-mW,nS _ 6 I] at g6;exact⟨ad,rfl,hb,s,_,A1,n1,c1,_,A2,n2,c2,A3,n3,c3,rfl,g0,g1,g2,g3,g4,g5,g6⟩
theorem alV(h:R:=by go_wp2_with fail;exact⟨⟨j+1,v2,vR,rfl,bR,I,HC3,zm,FJ,I⟩,bW⟩):R:=h
theorem aek(h:R:=by
  have:l.getD i ay=l[i]:=by simp[dO,rP]
  rw[this];exact rF rP):R:=h
theorem alW(h:R:=by show _=_;rw[<-rV.E,List.drop_eq_nil_of_le (by rw[oz,HL.E];omega)];rfl):R:=h
theorem ayy(F:lh->Int->Option (List (Int × Int)))(pair:Bool)(k:Int)(B ob rb kb:Nat)(A:Option aK)(n c:Nat)(l:List gF)(w W:Y)(v:ak)(out:List jh)(hJ:GQ B ob v out w W)(hS:Bf w B A n l)(hn:n<=16)(hl:l.length=n)(bH:out.length<=900000)
  (HE:∀(m:gF) (other:Int) (W0 U:Y) (mb pb:Nat) (v':ak) (mQ:List jh),m∈l->GQ B ob v' mQ w W0->aj W0 W0 U->W0.heap.size<=mb->W0.heap.size<=pb->Kp W ob W U->ru U mb m other (O J 0 0) pb 0->eD mE U pb []->mQ.length<=1000000->
   aF aa 97 #[aQ mb,aQ rb,aQ kb,aQ ob] U (alT (F m.s other) m.s.bD other k B ob W0 mQ w U)):
  aF aa 96 #[O A n c,pair,.func (.func 97) #[] #[aQ rb,aQ kb,aQ ob]] W (ayx (yK F pair (l.map (·.s)) k (l.map (·.s)) out) B ob out w W):=by
 have zx:= @run_makeMap aa;have HJ:=G hJ;have HS:=G hS;have HL:=G hl;have HEE:=G HE;obtain⟨cK,hR⟩:∃cK,cK=yK F pair (l.map (·.s)) k (l.map (·.s)) out:=⟨_,rfl⟩;have HR:=G hR;rw[<-hR];clear hJ hS hl HE hR;go_enter func96,ntmps96;go_wp2_with fail;go_step3;go_wp2_with fail;go_step3;go_wp2_with fail;go_loopw [7,14] (λev iv wr=>∃(i:Nat) (v':ak) (mQ:List jh),ev=C D 0/\iv=C D i/\i<=n/\GQ B ob v' mQ w wr/\Kp W ob W wr/\yK F pair (l.map (·.s)) k ((l.map (·.s)).drop i) mQ=cK/\mQ.length<=out.length+16*i) (λ_ iv _=>n-(intOf iv).toNat);case atStart=>exact⟨0,v,out,rfl,rfl,I,HJ,Kp.refl _ _ _,HR.symm,I⟩
 clear HR HJ;obtain⟨i,v',mQ,rfl,rfl,hi,Mt,uS,gu,hol⟩:=hrel;obtain⟨wo,rfl⟩:=dz wr;have HC:=G Mt;have yP:=G uS;have rV:=G gu;have eP:W.heap.size<=wo.heap.size:=uS.1;have ayz:mQ.length<=out.length+256:=I;clear Mt uS gu;by_cases aO:i<n;case neg=>
  have F0:af (cK=N mQ):=by exact alW
  go_wp2_with fail;go_ret;exact⟨v',mQ,HC,yP,.inr ⟨F0,rfl,ayz⟩⟩
 have b3:(i:Int)<(n:Int):=I;have rP:i<l.length:=zW;obtain⟨ad,rfl,_,s,b1,A1,n1,c1,b2,A2,n2,c2,A3,n3,c3,hm,g0,g1,g2,g3,g4,g5,g6⟩:=aaS (HS.below HC.low) aO HL;have Dm:=drop_cons rP;have yX:=rV;rw[Dm,hm] at yX;have dK:l.getD i ay∈l:=by exact aek
 rw[hm] at dK;have alX:=G dK;have jy:=G yX;clear Dm yX dK hm rV;obtain⟨w2,gM⟩:∃w2:Y,w2=wo.alloc (ag #[s.bD,s.full,b1,O A1 n1 c1,b2,O A2 n2 c2,O A3 n3 c3] 52):=⟨_,rfl⟩;have aJ:aj wo wo w2:=abo;have fw:w2.heap.size=wo.heap.size+1:=Rp;have eu:af (ai w2 wo 52 #[s.bD,s.full,b1,O A1 n1 c1,b2,O A2 n2 c2,O A3 n3 c3]):=afB;have zO:=G (HC.below aJ);have aDx:ob<wo.heap.size:=HC.box.lt;have kW:=G (yP.nM aJ);go_upto_region 5 with fail;rw[<-gM];clear g0 g1 g2 g3 g4 g5 g6 gM aJ HC yP;have x1:w2.cell? ⟨wo,1,J⟩=N (ax s.full):=eu.cell 1;cases hf:s.full with
 |false=>have FR:=G ((ays hf).symm.trans jy);rw[hf] at x1;go_wp2_with fail;exact⟨⟨i+1,v',mQ,rfl,bR,I,zO,kW,FR,I⟩,bW⟩
 |true=>
  rw[hf] at x1;obtain⟨x0,x2,x3,x4,x5,x6⟩:=(show _/\_/\_/\_/\_/\_ from⟨eu.cell 0,eu.cell 2,eu.cell 3,eu.cell 4,eu.cell 5,eu.cell 6⟩);simp only[iH,iX,iI] at x0 x2 x3 x4 x5 x6;cases pair with
  |false=>
   have FR:=G ((ayt hf rfl).symm.trans jy);have HM:=G (alU w2 ⟨s,ax b1,O A1 n1 c1,ax b2,O A2 n2 c2,O A3 n3 c3⟩ (-1));dsimp only at HM;rw[fw,hf] at HM;go_wp2_with fail;refine(HEE _ (-1) w2 _ _ _ v' mQ alX zO (by rw[fw];exact HM.2.2) I I (kW.nM (by rw[fw];exact HM.2.2)) HM.1 HM.2.1 I).mono ?_;rintro e' w5 ⟨v5,ael,XE,hk5,kT⟩;have Ba:=G ((kW.nM (by rw[fw];exact HM.2.2)).trans (hk5.low (show W.heap.size<=w2.heap.size by omega)));have K9:=G XE;clear HM hk5 XE eu x0 x1 x2 x3 x4 x5 x6;have fr:=FR;rcases kT with⟨rf,rfl⟩|⟨ps,lY,rfl,rfl⟩;·dsimp only at rf;rw[rf] at fr;have F2:=G fr;clear fr FR rf;go_wp2_with fail;go_ret;exact⟨v5,ael,K9,Ba,.inl ⟨F2.symm,rfl⟩⟩
   dsimp only at lY K9;rw[lY] at fr;have F2:=G fr;have ha:=alS mQ s.bD (-1) k ps;clear fr FR lY;go_wp2_with fail;exact⟨⟨i+1,v5,Da mQ s.bD (-1) k ps,rfl,bR,I,K9,Ba,F2,I⟩,bW⟩
  |true=>
   have FR:=G ((ayu hf rfl).symm.trans jy);clear jy;obtain⟨R2,hR2⟩:∃R2,R2=BZ (F s) s.bD k (l.map (·.s)) mQ:=⟨_,rfl⟩;have jy:=G hR2;rw[<-hR2] at FR;clear hR2 x0 x2 x3 x4 x5 x6;go_wp2_with fail;go_loopw [7,33] (λev jv wr=>∃(j:Nat) (v2:ak) (vR:List jh),ev=C D 0/\jv=C D j/\j<=n/\GQ B ob v2 vR w wr/\Kp w2 ob w2 wr/\BZ (F s) s.bD k ((l.map (·.s)).drop j) vR=R2/\vR.length<=mQ.length+j) (λ_ jv _=>n-(intOf jv).toNat);case atStart=>exact⟨0,v',mQ,rfl,rfl,I,zO,Kp.refl _ _ _,jy.symm,I⟩
   clear jy zO;obtain⟨j,v2,vR,rfl,rfl,hj,Mt,uS,gu,aDy⟩:=hrel;obtain⟨Mv,rfl⟩:=dz wr;have HC:=G Mt;have yP:=G uS;have rV:=G gu;have aDz:w2.heap.size<=Mv.heap.size:=uS.1;clear Mt uS gu;by_cases hlj:j<n;case neg=>
    have F0:af (R2=N vR):=by exact alW
    have fr:=FR;rw[F0.E] at fr;have F2:=G fr;have Ba:=G (kW.trans (yP.low (show W.heap.size<=w2.heap.size by omega)));clear fr FR F0 yP;go_wp2_with fail;exact⟨⟨i+1,v2,vR,rfl,bR,I,HC,Ba,F2,I⟩,bW⟩
   have b4:(j:Int)<(n:Int):=I;have oN:j<l.length:=by rw[HL.E];exact hlj
   obtain⟨Hf,QR,hbk',s',b1',A1',n1',c1',b2',A2',n2',c2',A3',n3',c3',Im,g0,g1,g2,g3,g4,g5,g6⟩:=aaS (HS.below HC.low) hlj HL;injection QR with QR;subst QR;have Dm:=drop_cons oN;have yX:=rV;rw[Dm,Im] at yX;dsimp only at yX;have vE:=G yX;clear Dm yX Im rV;obtain⟨w3,dF⟩:∃w3:Y,w3=Mv.alloc (ag #[s'.bD,s'.full,b1',O A1' n1' c1',b2',O A2' n2' c2',O A3' n3' c3'] 52):=⟨_,rfl⟩;have aR:aj Mv Mv w3:=by rw[dF];exact(aN _ _).alloc (aC _) _
   have fM:w3.heap.size=Mv.heap.size+1:=KG;have fD:af (ai w3 Mv 52 #[s'.bD,s'.full,b1',O A1' n1' c1',b2',O A2' n2' c2',O A3' n3' c3']):=by show ai _ _ _ _;rw[dF];exact ai.new Mv _ _
   have HC3:=G (HC.below aR);have zm:=G (yP.nM aR);have QS:=G (zm.2 _ _ _ (show wo.heap.size<w2.heap.size by omega) eu aL I);go_upto_region 12 with fail;rw[<-dF];clear g0 g1 g2 g3 g4 g5 g6 dF aR HC yP;have x0:w3.cell? ⟨wo,0,J⟩=N (C D s.bD):=QS.cell 0;have y0:w3.cell? ⟨Mv,0,J⟩=N (C D s'.bD):=fD.cell 0;have y1:w3.cell? ⟨Mv,1,J⟩=N (ax s'.full):=fD.cell 1;by_cases hq:s'.full=X\/s'.bD=s.bD
   ·have FJ:=G ((ayv hq).symm.trans vE);cases hf':s'.full with
    |false=>rw[hf'] at y1;exact alV
    |true=>rw[hf'] at y1;have he:s'.bD=s.bD:=hq.resolve_left (by simp[hf']);rw[he] at y0;exact alV
   have hf':s'.full=Z:=by cases h:s'.full;exact absurd (.inl h) hq;rfl
   have he:s'.bD≠s.bD:=λh=>hq (.inr h);have FJ:=G ((ayw hf' he).symm.trans vE);have k5:(s'.bD==s.bD)=X:=by simpa using he
   have HM:=G (alU w3 ⟨s,ax b1,O A1 n1 c1,ax b2,O A2 n2 c2,O A3 n3 c3⟩ s'.bD);dsimp only at HM;rw[fM,hf] at HM;have x1:w3.cell? ⟨wo,1,J⟩=N (ax Z):=by rw[<-hf];exact QS.cell 1
   obtain⟨x2,x3,x4,x5,x6⟩:=(show _/\_/\_/\_/\_ from⟨QS.cell 2,QS.cell 3,QS.cell 4,QS.cell 5,QS.cell 6⟩);simp only[iH,iX,iI] at x2 x3 x4 x5 x6;rw[hf'] at y1;clear hq he vE;go_wp2_with fail;refine(HEE _ s'.bD w3 _ _ _ v2 vR alX HC3 (by rw[fM];exact HM.2.2) I I ((kW.trans (zm.low (show W.heap.size<=w2.heap.size by omega))).nM (by rw[fM];exact HM.2.2)) HM.1 HM.2.1 I).mono ?_;rintro e' w5 ⟨v5,ael,XE,hk5,kT⟩;have Ba:=G ((zm.nM (by rw[fM];exact HM.2.2)).trans (hk5.low (show w2.heap.size<=w3.heap.size by omega)));have K9:=G XE;clear HM hk5 XE fD x0 x1 x2 x3 x4 x5 x6 y0 y1;have fj:=FJ;rcases kT with⟨rf,rfl⟩|⟨ps,lY,rfl,rfl⟩;·dsimp only at rf;rw[rf] at fj;dsimp only at fj;subst fj;have F2:=G FR;clear FR FJ rf;have zJ:=G (kW.trans (Ba.low (show W.heap.size<=w2.heap.size by omega)));go_wp2_with fail;go_ret;exact⟨v5,ael,K9,zJ,.inl ⟨F2.symm,rfl⟩⟩
   dsimp only at lY K9;rw[lY] at fj;have F2:=G fj;have ha:=alS vR s.bD s'.bD k ps;clear fj FJ lY;go_wp2_with fail;exact⟨⟨j+1,v5,Da vR s.bD s'.bD k ps,rfl,bR,I,K9,Ba,F2,I⟩,bW⟩
structure aaT(mb pb nb B:Nat)(m:gF)(other sum:Int)(env:List (List UInt8 × Int))(W:Y):Prop where
 nH:ru W mb m other (O J 0 0) pb sum
 ok:m.ok W B
 le:B<=W.heap.size
 Jb:eD xO W nb env
theorem aaT.below{nb:Nat}{m:gF}{other sum:Int}{env:List (List UInt8 × Int)}(h:aaT mb pb nb B m other sum env W)(hb:aj W W W'):aaT mb pb nb B m other sum env W':=⟨ai.below h.nH hb (ai.lt h.nH),h.ok.below (hb.mono h.le),ja h.le hb.size,h.Jb.below hb h.Jb.lt⟩
def aem(o:Option Int)(W:Y)(e:Ending)(W':Y):Prop:=(∃v b,e=aI (bz #[C D v,ax b])/\(b=X->o=J)/\(b=Z->o=N v))/\aj W.heap.size W W'
def VAt(mb pb nb B:Nat)(m:gF)(other sum:Int)(env:List (List UInt8 × Int))(x:Ex):Prop:=
 ∀(W:Y) (S:Nat->Prop) (A:Option aK) (n c:Nat),aaT mb pb nb B m other sum env W->eU W S x (O A n c)->(∀q,S q->q<W.heap.size)->
  aF aa 104 #[aQ mb,gJ x.hd (O A n c),.map (N nb)] W (aem (kQ (lS m.s other) env x) W)
theorem ayA(k:Int)(h:k=3\/k=4\/k=6\/k=20\/7<=k/\k<=19)(w:Y):(KW 294 (aD I8) (C D k)).run aa w= .ok (C D (nY k)) w:=by have h2:k=3\/k=4\/k=6\/k=20\/k=7\/k=8\/k=9\/k=10\/k=11\/k=12\/k=13\/k=14\/k=15\/k=16\/k=17\/k=18\/k=19:=I;rcases h2 with rfl|rfl|rfl|rfl|rfl|rfl|rfl|rfl|rfl|rfl|rfl|rfl|rfl|rfl|rfl|rfl|rfl<;>(clear h;show _=_;kernel_rfl)
theorem alY(h:R:=by go_wp2_with fail;go_ret2;exact⟨⟨_,_,rfl,(λh=>by rw[F2.E,if_neg (by rw[h];simp)]),(λh=>by rw[F2.E,if_pos h])⟩,aM.E⟩):R:=h
theorem aen(mb pb nb B:Nat)(m:gF)(other sum:Int)(env:List (List UInt8 × Int))(x:Ex)(ho:eG x=Z)(hK:∀y∈x.args,VAt mb pb nb B m other sum env y):VAt mb pb nb B m other sum env x:=by
 intro W S A na ca hV hA hS;obtain⟨bH,_⟩:=hA.len;have AL:na<=2:=OV;have gH:=G bH;have HA:=G hA;have HS:=G hS;have HK:=G hK;have HV:=G hV;have Tp:=G (ayh (lS m.s other) env x ho);have qJ:=G (ayi (lS m.s other) env x);rw[<-bH] at Tp qJ;have Ko:af (x.hd.kind=1\/x.hd.kind=2\/x.hd.kind=21\/x.hd.kind=22\/x.hd.kind=5\/(x.hd.kind=3\/x.hd.kind=4\/x.hd.kind=6\/x.hd.kind=20\/7<=x.hd.kind/\x.hd.kind<=19)):=by
  show _\/_;cases x with
  |lf h=>have k:=PQ ho;rw[show(Ex.lf h).hd=h from rfl];omega
  |un h a=>simp only[eG,bq] at ho;have k:=ND ho.1;rw[show(Ex.un h a).hd=h from rfl];omega
  |bi h a b=>simp only[eG,bq] at ho;have k:=NF ho.1;rw[show(Ex.bi h a b).hd=h from rfl];omega
 have Nz:af (x.hd.name.length<=16):=by
  cases x with
  |lf h=>exact(Iu ho).2.2.2.2.2.2
  |un h a=>simp only[eG,bq] at ho;exact(Iu ho.1).2.2.2.2.2.2
  |bi h a b=>simp only[eG,bq] at ho;exact(Iu ho.1).2.2.2.2.2.2
 obtain⟨o,hoE⟩:∃o,o=kQ (lS m.s other) env x:=⟨_,rfl⟩;rw[<-hoE] at Tp qJ |-;clear hK hA hS bH hV ho hoE;unfold gJ;have dC:=G ((ai.new W 128 #[C D x.hd.kind,C D x.hd.value,C D x.hd.from_,C D x.hd.az,au ⟨x.hd.name.toArray⟩,O A na ca]).alloc (ag #[C D 0,C D 0] 222));have HA0:af (ai ((W.alloc (ag #[C D x.hd.kind,C D x.hd.value,C D x.hd.from_,C D x.hd.az,au ⟨x.hd.name.toArray⟩,O A na ca] 128)).alloc (ag #[C D 0,C D 0] 222)) (W.heap.size+1) 222 #[C D 0,C D 0]):=by have:=ai.new (W.alloc (ag #[C D x.hd.kind,C D x.hd.value,C D x.hd.from_,C D x.hd.az,au ⟨x.hd.name.toArray⟩,O A na ca] 128)) 222 #[C D 0,C D 0];rw[aW] at this;exact this
 have aP:af (aj W.heap.size W ((W.alloc (ag #[C D x.hd.kind,C D x.hd.value,C D x.hd.from_,C D x.hd.az,au ⟨x.hd.name.toArray⟩,O A na ca] 128)).alloc (ag #[C D 0,C D 0] 222))):=((aN _ _).alloc (aC _) _).alloc aG _;generalize hhd:x.hd=hh at*;obtain⟨kd,vl,fr,az,nm⟩:=hh;simp only[] at dC aP HA0 Ko Nz |-;clear hhd;go_enter func104,ntmps104;go_wp2_with fail;go_loopw [16] (λiv wr=>∃(i:Nat) (vs:List Int),iv=C D i/\i<=na/\vs.length=i/\(∀j,j<vs.length->kQ (lS m.s other) env (x.args.getD j ay)=N (vs.getD j 0))/\aj W.heap.size W wr/\ai wr W.heap.size 128 #[C D kd,C D vl,C D fr,C D az,au ⟨nm.toArray⟩,O A na ca]/\ai wr (W.heap.size+1) 222 #[C D (vs.getD 0 0),C D (vs.getD 1 0)]) (λiv _=>na-(intOf iv).toNat);case atStart=>exact⟨0,[],rfl,I,rfl,(λj hj=>by simp at hj),aP.E,dC.E,HA0.E⟩
 clear dC HA0 aP;obtain⟨i,vs,rfl,hi,hvl,hvs,fq,pM,tL⟩:=hrel;obtain⟨wo,rfl⟩:=dz wr;have zK:=G fq;have HXB:=G pM;have HAB:=G tL;have HVS:=G hvs;have EM:=G (HV.E.below fq);have eP:=fq.size;have kP:=tL.lt;by_cases aO:i<na;case pos=>
  have k3:decide ((i:Int)<(na:Int))=Z:=jO;have b3:(i:Int)<(na:Int):=I;have kG:=HA.E.keep (w':=wo) (S':=S) (λq hq=>fq.block q (HS.E q hq)) (λq hq=>hq);obtain⟨ga,A',n',c',rfl,F5,gT,kY⟩:=kG.at_ aO;have dK:=PK (show i<x.args.length by rw[<-gH.E];exact aO);have HC:af (∀u,aj wo.heap.size wo u->aF aa 104 #[aQ (N ⟨mb,0,J⟩),gJ (x.args.getD i ay).hd (O A' n' c'),.map (N nb)] u (aem (kQ (lS m.s other) env (x.args.getD i ay)) u)):=λu hu=>HK.E _ dK u S A' n' c' (EM.E.below hu) (kY.keep (λq hq=>hu.block q (by have:=HS.E q hq;omega)) (λq hq=>hq)) (λq hq=>by have:=HS.E q hq;have:=hu.size;omega);have su:af (kQ (lS m.s other) env (x.args.getD i ay)=J->o=J):=qJ.E i aO;have HVE:af (∃y,y=x.args.getD i ay):=⟨_,rfl⟩;have HYS:af (∀u,kQ (lS m.s other) env (x.args.getD i ay)=N u->∀j,j<(vs++ [u]).length->kQ (lS m.s other) env (x.args.getD j ay)=N ((vs++ [u]).getD j 0)):=by
   intro u hu j hj;rw[eB,mf] at hj;by_cases h:j<vs.length;·rw[show(vs++ [u]).getD j 0=vs.getD j 0 from by simp[dO,List.getElem?_append_left h]];exact HVS.E j h
   rw[show j=i from by omega,hu,show(vs++ [u]).getD i 0=u from by rw[<-hvl];simp[dO]]
  unfold gJ at HC;clear kY dK kG fq pM tL hvs HVE;generalize kQ (lS m.s other) env (x.args.getD i ay)=oy at*;generalize(x.args.getD i ay).hd=yh at*;obtain⟨a0,a1,a2,a3,a4,a5⟩:=Sk gT;clear gT;obtain⟨ou,lN,lQ,gQ,fQ⟩:=yh;simp only[] at HC a0 a1 a2 a3 a4;have WT:aj wo.heap.size wo (wo.alloc (ag #[C D ou,C D lN,C D lQ,C D gQ,au ⟨fQ.toArray⟩,O A' n' c'] 128)):=(aN _ _).alloc (aC _) _;have jw:=G WT;clear WT;go_wp2_with fail;refine(HC.E _ jw.E).mono ?_;rintro e' w1 ⟨⟨v,b,rfl,vD,o8⟩,aB⟩;have aM:=G (jw.E.trans (aB.mono jw.E.size));clear aB HC jw;cases b;·have F:=G (su.E (vD rfl));have J2:=G (aU zK.E aM.E);clear vD o8;go_wp2_with fail;go_ret2;exact⟨⟨_,_,rfl,λ_=>F.E,(λh=>by cases h)⟩,J2.E⟩
  have F:=G (HYS.E v (o8 rfl));have Ij:=G (HAB.E.below aM.E kP);have bO:=G (HXB.E.below aM.E I);have J2:=G (aU zK.E aM.E);clear vD o8 su;have zf:=Ij.E.frozen;have z0:w1.cell? ⟨W.heap.size+1,0,J⟩=N (C D (vs.getD 0 0)):=Ij.E.cell 0;have z1:w1.cell? ⟨W.heap.size+1,1,J⟩=N (C D (vs.getD 1 0)):=Ij.E.cell 1;have wQ:i=0\/i=1:=I;have aS:af (∀(p:Nat) u,aj W.heap.size W (w1.setCell ⟨W.heap.size+1,p,J⟩ u)):=λp u=>J2.E.setCell (p:=⟨W.heap.size+1,p,J⟩) (by show W.heap.size<=W.heap.size+1;omega) u;have eu:=G (λ(p:Nat) (u:ak)=>bO.E.far (p:=⟨W.heap.size+1,p,J⟩) (show W.heap.size≠W.heap.size+1 by omega) u);rcases wQ with rfl|rfl;·obtain rfl:vs= []:=O0 hvl;go_wp2_with fail;refine⟨⟨1,[v],bR,I,rfl,F.E,aS.E _ _,eu.E _ _,?_⟩,bW⟩;have hk:=Ij.E.bL 0 (C D v);simpa using hk
  obtain⟨v0,rfl⟩:∃v0,vs= [v0]:=List.length_eq_one_iff.1 hvl;go_wp2_with fail;refine⟨⟨2,[v0,v],bR,I,rfl,F.E,aS.E _ _,eu.E _ _,?_⟩,bW⟩;have hk:=Ij.E.bL 1 (C D v);simpa using hk
 have hfin:=Tp.E vs (by rw[hvl];omega) hvs;generalize vs.getD 0 0=a0 at*;generalize vs.getD 1 0=a1 at*;have GR:=G hfin;obtain⟨x0,x1,x2,x3⟩:=(show _/\_/\_/\_ from⟨pM.cell 0,pM.cell 1,pM.cell 2,pM.cell 3⟩);have x4:=pM.cell 4;simp only[iH,iX,iI] at x0 x1 x2 x3 x4;have z0:wo.cell? ⟨W.heap.size+1,0,J⟩=N (C D a0):=tL.cell 0;have z1:wo.cell? ⟨W.heap.size+1,1,J⟩=N (C D a1):=tL.cell 1;have lD:=Ko.E;have ayB:=G Nz.E;clear hfin hvs HVS hvl fq pM tL HK HA HS Tp qJ Ko Nz gH HV;rcases lD with rfl|rfl|rfl|rfl|rfl|lD;·have F:af (o=N vl):=GR.E;clear GR;go_wp2_with fail;go_ret2;exact⟨⟨_,_,rfl,(λh=>by cases h),λ_=>F.E⟩,zK.E⟩
 ·have F:af (o=N (dX 0 env nm)):=GR.E;have HM:=G EM.E.Jb;have aX:xO.ok nm:=by show nm.length<=9223372036854775807;have:=ayB.E;omega
  have dI:=G aX;obtain⟨gv,hgv⟩:∃v,v=dX 0 env nm:=⟨_,rfl⟩;have Ud:=G hgv;clear GR aX hgv;go_wp2_with(at_lookup;refine JR (M:=xO) _ iN _ _ rfl nb env nm rfl rfl HM.E dI.E ?_;rw[show xO.U (dX xO.d env nm)=C D gv from congrArg (C D) Ud.E.symm]);go_ret2;exact⟨⟨_,_,rfl,(λh=>by cases h),λ_=>by rw[F.E,Ud.E]⟩,zK.E⟩
 ·have F:af (o=Lv m.s.items fr az (-1)):=GR.E;clear GR;go_wp2_with fail;refine(aaN mb m other (O J 0 0) pb sum B wo EM.E.nH EM.E.ok EM.E.le fr az (-1)).mono ?_;rintro e' w1 ⟨rfl,aB⟩;have aM:=G (aU zK.E aB);clear aB;unfold Xr;generalize hsv:BX fr az (-1) m.s.items 0=sv at*;have F2:af (o=if bX sv then N sv else J):=by show _=_;rw[F.E,Lv,hsv]
  clear F hsv;exact alY
 ·have F:af (o=Lv m.s.items fr az other):=GR.E;clear GR;have y7:wo.cell? ⟨mb,7,J⟩=N (C D other):=ai.cell EM.E.nH 7;have jg:=G (aaN mb m other (O J 0 0) pb sum B wo.drew (ai.drew EM.E.nH) (EM.E.ok.below (below_drewN (aN _ _) 1)) EM.E.le fr az other);unfold Xr at jg;generalize hsv:BX fr az other m.s.items 0=sv at*;have F2:af (o=if bX sv then N sv else J):=by show _=_;rw[F.E,Lv,hsv]
  clear F hsv;go_upto_region 18 with fail;refine iA (S:=λu=>u.cell? ⟨W.heap.size,2,J⟩=N (C D fr)/\u.cell? ⟨W.heap.size,3,J⟩=N (C D az)/\u.cell? ⟨mb,7,J⟩=N (C D other)) dh ⟨x2,x3,y7⟩ (λbg=>?_);refine aA 0 ?_;refine aA 1 ?_;refine aA 2 ?_;refine aA 3 ?_;refine aA 4 ?_;refine aA 5 ?_;refine aA 6 ?_;refine aA 7 ?_;refine aA 8 ?_;refine bK 9 (λK hK=>?_);go_simp;refine jg.E.mono ?_;rintro e' w1 ⟨rfl,aB⟩;have hlx:W.heap.size<wo.heap.size:=I;have II:mb<wo.heap.size:=ai.lt EM.E.nH;have pG:aj W.heap.size wo wo.drew:=below_drewN (aN _ _) 1;have aM:=G (zK.E.trans (pG.trans (aB.mono eP)));have o9:=(aB.cell (p:=⟨W.heap.size,2,J⟩) hlx).trans x2;have BH:=(aB.cell (p:=⟨W.heap.size,3,J⟩) hlx).trans x3;have Be:=(aB.cell (p:=⟨mb,7,J⟩) II).trans y7;go_simp;refine bF hK ⟨o9,BH,Be⟩ (λOG=>?_);clear hK K aB o9 BH Be pG;refine aA 10 ?_;refine aA 11 ?_;refine aA 12 ?_;refine aA 13 ?_;refine gI ?_;clear bg OG x0 x1 x2 x3 x4 z0 z1 y7;exact alY
 ·have F:af (o=J4 m.s.sa m.s.sb a0):=GR.E;clear GR;go_wp2_with fail;refine(alz mb m other (O J 0 0) pb sum B wo EM.E.nH EM.E.ok EM.E.le a0).mono ?_;rintro e' w1 ⟨rfl,aB⟩;have aM:=G (aU zK.E aB);clear aB;unfold Dp;rw[<-F.E];go_wp2_with fail;go_ret2;cases o with
  |none=>exact⟨⟨_,_,rfl,(λ_=>rfl),(λh=>by cases h)⟩,aM.E⟩
  |some u=>exact⟨⟨_,_,rfl,(λh=>by cases h),(λ_=>rfl)⟩,aM.E⟩
 have F:af (o=iC (nY kd) vl a0 a1):=by show _=_;rw[GR.E,Xz];rw[if_neg (show ¬kd=1 by omega),if_neg (show ¬kd=2 by omega),if_neg (show ¬kd=21 by omega),if_neg (show ¬kd=22 by omega),if_neg (show ¬kd=5 by omega)]
 have k1:(kd==1)=X:=iO;have k2:(kd==2)=X:=iO;have k21:(kd==21)=X:=iO;have k22:(kd==22)=X:=iO;have k5:(kd==5)=X:=iO;have H5:=G (ayA kd lD);clear GR lD;generalize nY kd=op at*;go_upto_region 21 with fail;refine iA (S:=λu=>u.cell? ⟨W.heap.size,0,J⟩=N (C D kd)/\u.cell? ⟨W.heap.size,1,J⟩=N (C D vl)/\u.cell? ⟨W.heap.size+1,0,J⟩=N (C D a0)/\u.cell? ⟨W.heap.size+1,1,J⟩=N (C D a1)) dh ⟨x0,x1,z0,z1⟩ (λbg=>?_);refine aA 1 ?_;refine aA 2 ?_;refine aA 4 ?_;refine aA 5 ?_;refine aA 6 ?_;refine aA 7 ?_;refine aA 8 ?_;refine aA 9 ?_;refine bK 0 (λK hK=>?_);go_simp;refine(axP _).mono ?_;rintro e' w1 ⟨rfl,aB⟩;have hlx:W.heap.size+1<wo.heap.size:=I;have pG:aj W.heap.size wo wo.drew:=below_drewN (aN _ _) 1;have aM:=G (zK.E.trans (pG.trans (aB.mono eP)));have o9:=(aB.cell (p:=⟨W.heap.size,0,J⟩) (show W.heap.size<wo.drew.heap.size by show W.heap.size<wo.heap.size;omega)).trans x0;have BH:=(aB.cell (p:=⟨W.heap.size,1,J⟩) (show W.heap.size<wo.drew.heap.size by show W.heap.size<wo.heap.size;omega)).trans x1;have Be:=(aB.cell (p:=⟨W.heap.size+1,0,J⟩) hlx).trans z0;have hx4:=(aB.cell (p:=⟨W.heap.size+1,1,J⟩) hlx).trans z1;go_simp;refine bF hK ⟨o9,BH,Be,hx4⟩ (λOG=>?_);clear hK K aB pG;have D5:=H5.E;refine aA 3 ?_;clear D5;refine bK 10 (λK hK=>?_);go_simp;refine(WZ op vl a0 a1 w1).mono ?_;rintro e' w2 ⟨rfl,rfl⟩;unfold Dp;rw[<-F.E];go_simp;refine bF hK ⟨o9,BH,Be,hx4⟩ (λaeo=>?_);clear hK K;refine aA 11 ?_;refine aA 12 ?_;refine aA 13 ?_;refine aA 14 ?_;refine gI ?_;clear bg OG aeo x0 x1 x2 x3 x4 z0 z1 o9 BH Be hx4;go_wp2_with fail;go_ret2;cases o with
 |none=>exact⟨⟨_,_,rfl,(λ_=>rfl),(λh=>by cases h)⟩,aM.E⟩
 |some u=>exact⟨⟨_,_,rfl,(λh=>by cases h),(λ_=>rfl)⟩,aM.E⟩
theorem ayC(mb pb nb B:Nat)(m:gF)(other sum:Int)(env:List (List UInt8 × Int)):∀x:Ex,eG x=Z->VAt mb pb nb B m other sum env x:=by
 intro x;induction x with
 |lf h=>intro ho;exact aen mb pb nb B m other sum env _ ho (by intro y hy;simp[Ex.args] at hy)
 |un h a ih=>intro ho;have h2:=ho;simp only[eG,bq] at h2;exact aen mb pb nb B m other sum env _ ho (by intro y hy;simp only[Ex.args,jZ,nJ,or_false] at hy;subst hy;exact ih h2.2)
 |bi h a b qg vg=>intro ho;have h2:=ho;simp only[eG,bq] at h2;exact aen mb pb nb B m other sum env _ ho (by intro y hy;simp only[Ex.args,jZ,nJ,or_false] at hy;rcases hy with rfl|rfl;exact qg h2.2.1;exact vg h2.2.2)
theorem aep{a b c e:ak}(h:ai w q 74 #[a,b,c,d,e])(h6:tmps.getD 6 undef=aQ q)(h7:tmps.getD 7 undef=f):
  (results f52 tmps).run aa w= .ok (bz #[aD #[a,b,c,d,e],f]) w:=by have c0:=h.cell 0;have c1:=h.cell 1;have c2:=h.cell 2;have c3:=h.cell 3;have c4:=h.cell 4;simp only[iH,iI,iX] at c0 c1 c2 c3 c4;have e6:(tmps[6]?).getD undef=aQ q:=U8;have e7:(tmps[7]?).getD undef=f:=U9;simp[results,results52,go_sem,c0,c1,c2,c3,c4,e6,e7]
structure Jc(mb pb:Nat)(m:gF)(other:Int)(cs:Array ak)(env:List (List UInt8 × Int))(ps:List (Int × Int))(w W:Y):Prop where
 nH:ru W mb m other (O J 0 0) pb (vH ps)
 map:eD mE W pb (mh ps)
 Jb:eD xO W (w.heap.size+2) env
 Uh:ai W w 121 cs
 uZ:ai W (w.heap.size+1) 74 #[C D 0,C D 0,C D 0,C D 0,O J 0 0]
 gK:mG mb pb w W
section
variable{mb pb:Nat}{m:gF}{other:Int}{cs:Array ak}{env:List (List UInt8 × Int)}{ps:List (Int × Int)}{w W W':Y}
theorem Jc.below(h:Jc mb pb m other cs env ps w W)(hb:aj W W W'):Jc mb pb m other cs env ps w W':=⟨h.nH.QN hb,h.map.below hb h.map.lt,h.Jb.below hb h.Jb.lt,h.Uh.below hb h.Uh.lt,h.uZ.below hb h.uZ.lt,h.gK.trans (mG.of_below hb)⟩
theorem Jc.named(h:Jc mb pb m other cs env ps w W)(h1:mb<w.heap.size)(h2:pb<w.heap.size){env':List (List UInt8 × Int)}(hg:W.grownBy W' (N (w.heap.size+2)))(hm:eD xO W' (w.heap.size+2) env'):Jc mb pb m other cs env' ps w W':=by
 have ne:∀k,k<w.heap.size+2->N k≠N (w.heap.size+2):=λk hk e=>by injection e;omega
 exact⟨ai.grown h.nH hg (ne _ I),h.map.grown hg (ne _ I),hm,h.Uh.grown hg (ne _ I),h.uZ.grown hg (ne _ I),
  h.gK.xg ⟨hg.os,hg.tape,hg.output,hg.size,λk hk=>hg.block k (by have:=h.gK.size;omega) (ne _ I)⟩⟩
theorem Jc.aec(h:Jc mb pb m other cs env ps w W)(h1:mb<w.heap.size)(h2:pb<w.heap.size){a n:Int}(hM:ru W' mb m other (O J 0 0) pb (jf (vH ps+n)))(hP:eD mE W' pb (jH (mh ps) a (jf (dX 0 (mh ps) a+n))))(hO:mG mb pb W W'):Jc mb pb m other cs env (ps++ [(a,n)]) w W':=⟨by rw[alF];exact hM,by rw[alE];exact hP,h.Jb.kept (hO.block _ h.Jb.lt I I),h.Uh.gK hO I I,h.uZ.gK hO I I,h.gK.trans hO⟩
end
theorem ayD(mb pb:Nat)(m:gF)(other:Int)(B:Nat)(r:di)(aX:jK r=Z)(w:Y)(hM:ru w mb m other (O J 0 0) pb 0)(hP:eD mE w pb [])(hm:m.ok w B)(hBm:B<=mb)(QP:B<=pb)
  (S:Nat->Prop) (A:Option aK) (na ca:Nat) (hA:zt w S r.stmts A na ca) (hS:∀q,S q->q<B) (rl:Int):
  aF aa 52 #[aQ (N ⟨mb,0,J⟩),aD #[au ⟨r.name.toArray⟩,ax r.pair,O A na ca,C D r.az],C D rl] w (Km (vK (Bh (lS m.s other) r.stmts [] [] r.az)) m.s.bD other rl w.heap.size mb pb w):=by
 have zx:= @run_makeMap aa;obtain⟨f1,f2,f3,f4,f5⟩:=NU aX;have pK:=hM.lt;have Bv:=hP.lt;have gH:=G hA.1;have AL:na<=30:=by have:=hA.1;omega
 have HA:=G hA;have jc:=G hS;have dI:=G f5;have HM:=G hm;have Il:iw r.az=Z:=by unfold iw;simp[f3,f4]
 have QG:=G Il;obtain⟨jE,hO⟩:∃jE,jE=Bh (lS m.s other) r.stmts [] [] r.az:=⟨_,rfl⟩;have HO:=G hO;rw[<-hO];clear Il hO hA hS f5 aX f1 f2 f3 f4 hm;generalize r.stmts=ss at*;generalize r.az=az at*;generalize r.name=nm at*;generalize r.pair=pr at*;obtain⟨cs,ql⟩:∃cs:Array ak,cs=#[au ⟨nm.toArray⟩,ax pr,O A na ca,C D az]:=⟨_,rfl⟩;obtain⟨w3,dF⟩:∃w3:Y,w3=((w.alloc (ag #[au ⟨nm.toArray⟩,ax pr,O A na ca,C D az] 121)).alloc (ag #[C D 0,C D 0,C D 0,C D 0,O J 0 0] 74)).alloc (.map #[] 0):=⟨_,rfl⟩;have I0:af (Jc mb pb m other cs [] [] w w3):=by
  have aR:aj w.heap.size w w3:=aeX;refine⟨hM.QN aR,hP.below aR Bv,?_,?_,?_,mG.of_below aR⟩;·have h:=eD.made (M:=xO) ((w.alloc (ag #[au ⟨nm.toArray⟩,ax pr,O A na ca,C D az] 121)).alloc (ag #[C D 0,C D 0,C D 0,C D 0,O J 0 0] 74));simp only[aW] at h;rw[dF];exact h
  ·rw[dF,ql];exact((ai.new w _ _).alloc _).alloc _
  have h:=(ai.new (w.alloc (ag #[au ⟨nm.toArray⟩,ax pr,O A na ca,C D az] 121)) 74 #[C D 0,C D 0,C D 0,C D 0,O J 0 0]).alloc (.map #[] 0);rw[aW] at h;rw[dF];exact h
 clear hM hP;go_enter func52,ntmps52;go_upto_region 2 with fail;rw[<-dF];have x2:w3.cell? ⟨w.heap.size,2,J⟩=N (O A na ca):=by rw[I0.E.Uh.cell 2,ql];rfl
 clear dF;have Kb:=G ql;clear ql;go_wp2_with fail;clear x2;go_loopw [17] (λiv wr=>∃(j:Nat) (env:List (List UInt8 × Int)) (ps:List (Int × Int)),iv=C D j/\j<=na/\Jc mb pb m other cs env ps w wr/\Bh (lS m.s other) (ss.drop j) env ps az=jE/\ps.length<=j) (λiv _=>na-(intOf iv).toNat);case atStart=>exact⟨0,[],[],rfl,I,I0.E,HO.E.symm,aC _⟩
 clear I0 HO;obtain⟨j,env,ps,rfl,hj,iE,ig,nC⟩:=hrel;obtain⟨wo,rfl⟩:=dz wr;have wP:=G iE;have AY:=G ig;have eP:w.heap.size+2<wo.heap.size:=iE.Jb.lt;clear iE ig;by_cases aO:j<na;case neg=>
  have hd:ss.drop j= []:=List.drop_eq_nil_of_le Ju;have ig:=AY.E;rw[hd,Bh] at ig;have ac8:=alG ps;have kN:=G (alC mb pb m other (vH ps) (O J 0 0) (mh ps) wo wP.E.nH wP.E.map az rl QG.E I);rw[<-alB] at kN;have F2:af (vK jE=vK (.fin ps az)):=by show _=_;rw[<-ig]
  have x3:wo.cell? ⟨w.heap.size,3,J⟩=N (C D az):=by rw[wP.E.Uh.cell 3,Kb.E];rfl
  clear ac8 hd ig AY;generalize vK (.fin ps az)=fo at kN F2;go_wp2_with fail;refine kN.E.mono ?_;rintro e' w6 ⟨⟨v0,kd,g1,g2,g3,fc,rfl,kT⟩,rW⟩;have Bc:∃A n' c',v0=O A n' c':=by
   cases fo with
   |none=>exact⟨_,_,_,kT.2⟩
   |some ps=>obtain⟨A,c',e⟩:=eO kT.2.1;exact⟨_,_,_,e⟩
  obtain⟨A0,n0,c0,rfl⟩:=Bc;have GN:=G kT;have qN:=G (wP.E.gK.trans rW);have HB:af (ai w6 (w.heap.size+1) 74 #[C D 0,C D 0,C D 0,C D 0,O J 0 0]):=wP.E.uZ.gK rW I I;have zf:=HB.E.frozen;have z0:w6.cell? ⟨w.heap.size+1,0,J⟩=N (C D 0):=HB.E.cell 0;have z1:w6.cell? ⟨w.heap.size+1,1,J⟩=N (C D 0):=HB.E.cell 1;have z2:w6.cell? ⟨w.heap.size+1,2,J⟩=N (C D 0):=HB.E.cell 2;have z3:w6.cell? ⟨w.heap.size+1,3,J⟩=N (C D 0):=HB.E.cell 3;have z4:w6.cell? ⟨w.heap.size+1,4,J⟩=N (O J 0 0):=HB.E.cell 4;clear kT rW x3;go_wp2_with fail;refine eX (aep (GJ HB.E) rfl rfl) rfl ⟨⟨_,_,_,_,_,_,rfl,?_⟩,qN.E.xg (GK (aN _ _) I)⟩;rw[F2.E];have hr:=GN.E;cases fo with
  |none=>exact hr
  |some pp=>exact⟨hr.1,aaO (Fj hr.2.1 I) (λe=>by have:=lJ hr.2.1 _ e;omega) _ _ _ _ _,hr.2.2⟩
 have b3:(j:Int)<(na:Int):=I;have oN:j<ss.length:=G9;have BL:=HA.E.keep (w':=wo) (S':=S) (λq hq=>wP.E.gK.block q Js Js Js) (λq hq=>hq);obtain⟨gs,A2,n2,c2,Lp,hgs,⟨d0,d1,d2,d3,d4,d5,d6,d7,d8⟩,kY⟩:=BL.nine aO;subst Lp;have dK:ss.getD j ay∈ss:=by have:ss.getD j ay=ss[j]:=YX;rw[this];exact rF oN
 obtain⟨Gg,lD⟩:=Wn (dI.E _ dK);have Dm:ss.drop j=ss.getD j ay::ss.drop (j+1):=by rw[DY oN];simp[dO,oN]
 have ig:=AY.E;rw[Dm,Bh] at ig;have XF:=G ig;have Ko:=G lD;have FQ:=G (ayC mb pb (w.heap.size+2) B m other (vH ps) env _ Gg);have wL:=G kY;clear BL kY ig Dm dK Gg lD AY;generalize ss.getD j ay=st at*;obtain⟨kd,ac,fQ,ex⟩:=st;dsimp only at d0 d1 d2 d3 d4 d5 d6 d7 d8 XF FQ wL Ko;have Ld:af (∀u,aj wo.heap.size wo u->aF aa 104 #[aQ (N ⟨mb,0,J⟩),gJ ex.hd (O A2 n2 c2),.map (N (w.heap.size+2))] u (aem (kQ (lS m.s other) env ex) u)):=λu hu=>FQ.E u S A2 n2 c2 ⟨(wP.E.below hu).nH,(HM.E.below ((wP.E.gK.trans (mG.of_below hu)).below hBm QP I)),by have:=hu.size;omega,(wP.E.below hu).Jb⟩ (wL.E.keep (λq hq=>hu.block q Js) (λq hq=>hq)) (λq hq=>by have:=jc.E q hq;have:=hu.size;omega);unfold gJ at Ld;generalize kQ (lS m.s other) env ex=ov at*;generalize ex.hd=eh at*;obtain⟨k2,lN,lQ,gQ,XG⟩:=eh;dsimp only at d3 d4 d5 d6 d7 Ld;obtain⟨wa,oK⟩:∃wa:Y,wa=wo.alloc (ag #[C D kd,C D ac,au ⟨fQ.toArray⟩,C D k2,C D lN,C D lQ,C D gQ,au ⟨XG.toArray⟩,O A2 n2 c2] 130):=⟨_,rfl⟩;have jB:aj wo.heap.size wo wa:=Rh;have hsa:wa.heap.size=wo.heap.size+1:=YD;have nA:af (ai wa wo.heap.size 130 #[C D kd,C D ac,au ⟨fQ.toArray⟩,C D k2,C D lN,C D lQ,C D gQ,au ⟨XG.toArray⟩,O A2 n2 c2]):=UM;have alZ:=G (wP.E.below jB);have al0:=G (Ld.E wa jB);go_upto_region 5 with fail;rw[<-oK];clear oK jB d0 d1 d2 d3 d4 d5 d6 d7 d8 wP Ld FQ wL;obtain⟨x3,x4,x5,x6,x7,x8⟩:=(show _/\_/\_/\_/\_/\_ from⟨nA.E.cell 3,nA.E.cell 4,nA.E.cell 5,nA.E.cell 6,nA.E.cell 7,nA.E.cell 8⟩);simp only[iH,iX,iI] at x3 x4 x5 x6 x7 x8;go_wp2_with fail;refine al0.E.mono ?_;rintro e' w1 ⟨⟨v,b,rfl,vD,o8⟩,aB⟩;have bO:=G (nA.E.below aB I);have Kq:=G (alZ.E.below aB);clear aB al0 nA alZ x3 x4 x5 x6 x7 x8;cases b with
 |false=>have ig:=XF.E;rw[vD rfl] at ig;have F:af (jE= .err):=ig.symm;have HB:=G Kq.E.uZ;have zf:=HB.E.frozen;have z0:w1.cell? ⟨w.heap.size+1,0,J⟩=N (C D 0):=HB.E.cell 0;have z1:w1.cell? ⟨w.heap.size+1,1,J⟩=N (C D 0):=HB.E.cell 1;have z2:w1.cell? ⟨w.heap.size+1,2,J⟩=N (C D 0):=HB.E.cell 2;have z3:w1.cell? ⟨w.heap.size+1,3,J⟩=N (C D 0):=HB.E.cell 3;have z4:w1.cell? ⟨w.heap.size+1,4,J⟩=N (O J 0 0):=HB.E.cell 4;clear ig vD o8 XF;go_wp2_with fail;refine eX (aep (GJ HB.E) rfl rfl) rfl ⟨⟨_,_,_,_,_,_,rfl,?_⟩,Kq.E.gK.xg (GK (aN _ _) I)⟩;rw[F.E];exact⟨rfl,rfl⟩
 |true=>
  have ig:=XF.E;rw[o8 rfl] at ig;dsimp only at ig;have QT:=G ig;clear ig vD o8 XF;have x0:w1.cell? ⟨wo.heap.size,0,J⟩=N (C D kd):=bO.E.cell 0;rcases Ko.E with⟨wH,yx⟩|wH|⟨wH,wY,ha2⟩
  ·subst wH;have F:af (Bh (lS m.s other) (ss.drop (j+1)) (jH env fQ v) ps az=jE):=by have h:=QT.E;rw[if_pos rfl] at h;exact h
   have x2:w1.cell? ⟨wo.heap.size,2,J⟩=N (au ⟨fQ.toArray⟩):=bO.E.cell 2;have HMP:=G Kq.E.Jb;have aX:xO.ok fQ:=by show fQ.length<=9223372036854775807;omega
   have ayE:=G aX;clear QT aX;go_wp2_with(at_mapUpdate;refine VL (M:=xO) _ rfl _ _ _ rfl (w.heap.size+2) env fQ v rfl rfl rfl HMP.E ayE.E ?_;intro w8 xS qL;have HG8:=G (bI xS qL);clear xS qL);exact⟨⟨j+1,jH env fQ v,ps,bR,I,Kq.E.named pK Bv HG8.E.2 HG8.E.1,F.E,I⟩,bW⟩
  ·subst wH;have ig:=QT.E;rw[if_neg aL,if_pos rfl] at ig;by_cases Bc:v=0;·subst Bc;rw[if_pos rfl] at ig;have F:af (jE= .nil):=ig.symm;have HB:=G Kq.E.uZ;have zf:=HB.E.frozen;have z0:w1.cell? ⟨w.heap.size+1,0,J⟩=N (C D 0):=HB.E.cell 0;have z1:w1.cell? ⟨w.heap.size+1,1,J⟩=N (C D 0):=HB.E.cell 1;have z2:w1.cell? ⟨w.heap.size+1,2,J⟩=N (C D 0):=HB.E.cell 2;have z3:w1.cell? ⟨w.heap.size+1,3,J⟩=N (C D 0):=HB.E.cell 3;have z4:w1.cell? ⟨w.heap.size+1,4,J⟩=N (O J 0 0):=HB.E.cell 4;clear ig QT;go_wp2_with fail;refine eX (aep (GJ HB.E) rfl rfl) rfl ⟨⟨_,_,_,_,_,_,rfl,?_⟩,Kq.E.gK.xg (GK (aN _ _) I)⟩;rw[F.E];exact⟨rfl,ng _ _ _ _,λh=>absurd rfl h⟩
   rw[if_neg Bc] at ig;have F:=G ig;have k5:(v==0)=X:=by simpa using Bc
   clear ig Bc QT;go_wp2_with fail;exact⟨⟨j+1,env,ps,bR,I,Kq.E,F.E,I⟩,bW⟩
  subst wH;have ig:=QT.E;rw[if_neg aL,if_neg aL] at ig;have F:=G ig;have x1:w1.cell? ⟨wo.heap.size,1,J⟩=N (C D ac):=bO.E.cell 1;have hac:iw ac=Z:=by unfold iw;simp[wY,ha2]
  clear ig QT;go_wp2_with fail;refine(ad5 mb pb m other (vH ps) (O J 0 0) (mh ps) w1 Kq.E.nH Kq.E.map ac v hac).mono ?_;rintro e' w2 ⟨rfl,xG,fH,nT⟩;have sV:=G (Kq.E.aec pK Bv xG fH nT);clear xG fH nT;go_wp2_with fail;exact⟨⟨j+1,env,ps++ [(ac,v)],bR,I,sV.E,F.E,OU⟩,bW⟩
def yY(m:gF):Bool:=m.s.items.any GI
theorem ayF{l:List gF}(hk:k<l.length)(h:yY (l.getD k ay)=Z):l.any yY=Z:=by rw[List.any_eq_true];exact⟨l[k],rF _,by simpa[dO,hk] using h⟩
theorem ayG{l:List gF}(hk:k<l.length)(h:(l.take k).any yY=X)(h':yY (l.getD k ay)=X):(l.take (k+1)).any yY=X:=by rw[sD hk,List.any_append,h];have e:l.getD k ay=l[k]:=zV;rw[e] at h';simp[h']
theorem al1(h:R:=by
  repeat clear bg
  have hd2:aj w w2 w2.drew:=below_drewN (aN _ _) 1;have fT:=G (aH.trans ((aJ.mono eP).trans (hd2.trans (cO.mono (show w.heap.size<=w2.heap.size by omega)))));clear aH aJ cO HCT hd2;generalize s.items.any GI=py at*;cases py with
  |false=>have F:=G (HN yO);clear HN HY yO;go_wp2_with fail;exact⟨⟨i+1,bR,I,F,fT⟩,bW⟩
  |true=>have F:=G (HY yO);clear HN HY yO;go_wp2_with fail;go_ret;exact⟨ic,fT⟩):R:=h
theorem al2(l:List gF)(B:Nat)(A:Option aK)(n c:Nat)(w:Y)(hS:Bf w B A n l)(hl:l.length=n)(hn:n<=6)(hB:B<=w.heap.size)(hE:∀k,k<n->(l.getD k ay).s.bD=(k:Int)):
  aF aa 42 #[O A n c] w λe w'=>e=aI (!l.any yY)/\aj w w w':=by
 have HS:=G hS;have HL:=G hl;have ED:=G hE;clear hS hl hE;go_enter func42,ntmps42;go_wp2_with fail;go_loopw [7] (λiv wr=>∃i:Nat,iv=C D i/\i<=n/\(l.take i).any yY=X/\aj w w wr) (λiv _=>n-(intOf iv).toNat);case atStart=>exact⟨0,rfl,I,rfl,aN _ _⟩
 obtain⟨i,rfl,hi,hd,aH⟩:=hrel;obtain⟨wo,rfl⟩:=dz wr;have eP:=aH.size;by_cases aO:i<n;case neg=>have k3:decide ((i:Int)<(n:Int))=X:=fI;rw[o7 U5] at hd;have F:=G hd;have HB:=G aH;have k4:decide ((n:Int)<=12)=Z:=jO;clear hd aH;go_wp2_with fail;go_ret;exact⟨ic,HB⟩
 have b3:(i:Int)<(n:Int):=I;have rP:i<l.length:=zW;have hS2:=HS.below (aH.mono hB);obtain⟨ad,rfl,dU,s,b1,A1,n1,c1,b2,A2,n2,c2,A3,n3,c3,hm,g0,g1,g2,g3,g4,g5,g6⟩:=aaS hS2 aO HL;have dK:l.getD i ay∈l:=by exact aek
 have hent:=ED i aO;have iE:=(hS2.2 _ dK).2.2.2.2.2;have HY:af (yY (l.getD i ay)=Z->l.any yY=Z):=λh=>ayF rP h;have HN:af (yY (l.getD i ay)=X->(l.take (i+1)).any yY=X):=λh=>ayG rP hd h;have yO:af (yY (l.getD i ay)=(l.getD i ay).s.items.any GI):=rfl;rw[hm] at hent iE HY HN yO;dsimp only at hent iE yO;obtain⟨A',n',c',hv,bH,jG,nE⟩:=iE;injection hv with e1 e2 e3;subst e1 e2 e3;rw[hent] at g0;clear hent;obtain⟨w2,gM⟩:∃w2:Y,w2=wo.alloc (ag #[(i:Int),s.full,b1,O A1 n1 c1,b2,O A2 n2 c2,O A3 n3 c3] 52):=⟨_,rfl⟩;have aJ:aj wo wo w2:=abo;have fw:w2.heap.size=wo.heap.size+1:=Rp;have eu:af (ai w2 wo 52 #[(i:Int),s.full,b1,O A1 n1 c1,b2,O A2 n2 c2,O A3 n3 c3]):=afB;have HCT:=G (axK s.items B A3 n3 c3 w2.drew ((nE.below (aJ.mono I)).drew) bH (by show B<=w2.heap.size;omega) jG);go_upto_region 4 with fail;rw[<-gM];have x0:w2.cell? ⟨wo,0,J⟩=N (C D (i:Int)):=eu.cell 0;have x6:w2.cell? ⟨wo,6,J⟩=N (O A3 n3 c3):=eu.cell 6;have k5:decide ((i:Int)<0)=X:=fI;have k6:decide ((i:Int)>=12)=X:=fI;clear g0 g1 g2 g3 g4 g5 g6 gM hd hS2 dK hm nE bH jG;have hlx:wo.heap.size<w2.drew.heap.size:=by show wo.heap.size<w2.heap.size;omega
 by_cases gz:i=0;·refine iA (S:=λu=>u.cell? ⟨wo,0,J⟩=N (C D (i:Int))/\u.cell? ⟨wo,6,J⟩=N (O A3 n3 c3)) dh ⟨x0,x6⟩ (λbg=>?_);refine aA 0 ?_;refine aA 1 ?_;refine aA 2 ?_;refine aA 3 ?_;refine aA 4 ?_;refine aA 5 ?_;refine aA 6 ?_;refine aA 7 ?_;refine aA 8 ?_;refine aA 9 ?_;refine aA 10 ?_;refine aA 11 ?_;refine tC 12 ?_;refine tC 13 ?_;refine tC 14 ?_;refine tC 15 ?_;refine tC 16 ?_;refine tC 17 ?_;refine tC 18 ?_;refine tC 19 ?_;refine tC 20 ?_;refine aA 21 ?_;refine aA 22 ?_;refine aA 23 ?_;refine aA 24 ?_;refine aA 25 ?_;refine bK 26 (λK hK=>?_);go_simp;refine HCT.mono ?_;rintro e' w5 ⟨rfl,cO⟩;have hx5:=bI ((cO.cell hlx).trans x0) ((cO.cell hlx).trans x6);go_simp;refine bF hK hx5 (λbg=>?_);clear hK K hx5;refine aA 27 ?_;refine gI ?_;clear x0 x6;exact al1
 obtain⟨q,hq⟩:∃q,i=q+1:=⟨i-1,I⟩;obtain⟨Hf,QR,hbk',s',b1',A1',n1',c1',b2',A2',n2',c2',A3',n3',c3',Im,g0,_⟩:=aaS (HS.below (aH.mono hB)) (show q<n by omega) HL;injection QR with QR;subst QR;have he':=ED q I;rw[Im] at he';dsimp only at he';rw[he'] at g0;have hlp:(ad.add (q*7)).block<w2.drew.heap.size:=by rw[zX];show ad.block<w2.heap.size;omega
 have p0:w2.cell? (ad.add (q*7))=N (C D (q:Int)):=(aJ.cell E9).trans g0;have e1:(i:Int)-1=(q:Int):=I;have e2:IntKind.i64.wrap (q:Int)=(q:Int):=by exact IntWalk.i64_in _ ⟨I,I⟩
 have e3:(q:Int)<(n:Int):=I;have k9:0<i:=I;have k10:¬i<=q:=I;clear Im he' g0 hq hbk';refine iA (S:=λu=>u.cell? ⟨wo,0,J⟩=N (C D (i:Int))/\u.cell? ⟨wo,6,J⟩=N (O A3 n3 c3)/\u.cell? (ad.add (q*7))=N (C D (q:Int))) dh ⟨x0,x6,p0⟩ (λbg=>?_);refine aA 0 ?_;refine aA 1 ?_;refine aA 2 ?_;refine aA 3 ?_;refine aA 4 ?_;refine aA 5 ?_;refine aA 6 ?_;refine aA 7 ?_;refine aA 8 ?_;refine aA 9 ?_;refine aA 10 ?_;refine aA 11 ?_;refine aA 12 ?_;refine aA 13 ?_;refine aA 14 ?_;refine aA 15 ?_;refine aA 16 ?_;refine aA 17 ?_;refine aA 18 ?_;refine aA 19 ?_;refine aA 20 ?_;refine aA 21 ?_;refine aA 22 ?_;refine aA 23 ?_;refine aA 24 ?_;refine aA 25 ?_;refine bK 26 (λK hK=>?_);go_simp;refine HCT.mono ?_;rintro e' w5 ⟨rfl,cO⟩;have hx5:=bI ((cO.cell hlx).trans x0) (bI ((cO.cell hlx).trans x6) ((cO.cell hlp).trans p0));go_simp;refine bF hK hx5 (λbg=>?_);clear hK K hx5;refine aA 27 ?_;refine gI ?_;clear x0 x6 p0;exact al1
def ayH(o:Option (List jh))(w:Y)(e:Ending)(w':Y):Prop:=
 aj w.heap.size w w'/\∃v c,e=aI (bz #[v,C D c])/\((o=J/\c=2/\v=O J 0 0)\/∃ps,o=N ps/\c=0/\yV w' w.heap.size v ps)
theorem yV.slice{ps:List jh}(h:yV W B v ps):∃A c,v=O A ps.length c:=by obtain⟨l,e,h1,_⟩:=h;obtain⟨A,c,e2⟩:=eO h1;exact⟨A,c,by rw[e2,<-e,oz]⟩
theorem al3(Fp Fr:FuncId)(pc:ak)(hcp:∀(args:Array ak) (w:Y),(callFunc Fp args).run aa w= .ok (.enter Fp args) w)(oo:∀(args:Array ak) (w:Y),(callFunc Fr args).run aa w= .ok (.enter Fr args) w)
  (f:Nat->lh->Int->Option (List (Int × Int))) (XH:Nat->Bool) (A:Option aK) (n c:Nat) (l:List gF) (k:Nat) (w:Y) (hS:Bf w w A n l) (hn:n<=16) (hl:l.length=n) (hk:k<=40)
  (HP:∀(W:Y) (i:Nat),i<k->aj w w W->aF aa Fp #[i,pc] W λe W'=>e=aI (XH i)/\aj W W W')
  (HR:∀(W:Y) (i:Nat) (m:gF) (other:Int) (mb pb:Nat),i<k->m∈l->aj w w W->w.heap.size<=mb->w.heap.size<=pb->ru W mb m other (O J 0 0) pb 0->eD mE W pb []->
   aF aa Fr #[aQ mb,i,pc] W (Km (f i m.s other) m.s.bD other i W mb pb W)):
  aF aa 45 #[O A n c,k,.func (.func Fp) #[] #[pc],.func (.func Fr) #[] #[pc]] w (ayH (vL f XH (l.map (·.s)) k 0 []) w):=by
 have HS:=G hS;have gY:=G HP;have F7:=G HR;obtain⟨cK,hR⟩:∃cK,cK=vL f XH (l.map (·.s)) k 0 []:=⟨_,rfl⟩;have GN:=G hR;rw[<-hR];have HFR:af (ai ((w.alloc (ag #[.func (.func Fr) #[] #[pc]] 154)).alloc (ag #[O J 0 0] 67)) w 154 #[.func (.func Fr) #[] #[pc]]):=(ai.new w _ _).alloc _;have lX:af (GQ w (w.heap.size+1) (O J 0 0) [] w ((w.alloc (ag #[.func (.func Fr) #[] #[pc]] 154)).alloc (ag #[O J 0 0] 67))):=by refine⟨((aN _ _).alloc (aC _) _).alloc aG _,I,?_,[],rfl,ng _ _ _ _,λq hq=>by cases hq⟩;have h:=ai.new (w.alloc (ag #[.func (.func Fr) #[] #[pc]] 154)) 67 #[O J 0 0];rw[aW] at h;exact h
 clear hS HP HR hR;go_enter func45,ntmps45;go_wp2_with fail;go_loopw [14] (λiv wr=>∃(i:Nat) (v:ak) (out:List jh),iv=C D i/\i<=k/\GQ w (w.heap.size+1) v out w wr/\ai wr w 154 #[.func (.func Fr) #[] #[pc]]/\vL f XH (l.map (·.s)) (k-i) i out=cK/\out.length<=256*i) (λiv _=>k-(intOf iv).toNat);case atStart=>exact⟨0,O J 0 0,[],rfl,I,lX,HFR,GN.symm,aG⟩
 clear HFR lX GN;obtain⟨i,v,out,rfl,hi,Mt,rG,gu,hol⟩:=hrel;obtain⟨wo,rfl⟩:=dz wr;have HC:=G Mt;have HF:=G rG;have rV:=G gu;have eP:=Mt.box.lt;clear Mt rG gu;by_cases aO:i<k;case neg=>have hr:=rV;rw[show k-i=0 by omega,vL] at hr;have F:=G hr;have uK:=HC.box;obtain⟨Ao,co,hv⟩:=HC.aej.slice;subst hv;have x0:wo.cell? ⟨w.heap.size+1,0,J⟩=N (O Ao out.length co):=uK.cell 0;clear hr uK rV;go_wp2_with fail;go_ret2;exact⟨HC.low,_,_,rfl,.inr ⟨out,F.symm,rfl,HC.aej⟩⟩
 have b3:(i:Int)<(k:Int):=I;have hr:=rV;obtain⟨q,hq⟩:∃q,k-i=q+1:=⟨k-i-1,I⟩;rw[hq,vL] at hr;have iL:q=k-(i+1):=I;rw[iL] at hr;have jy:=G hr;clear hr hq iL rV;obtain⟨wa,oK⟩:∃wa:Y,wa=wo.alloc (ag #[(i:Int)] 3):=⟨_,rfl⟩;have jB:aj wo wo wa:=Rh;have hsa:wa.heap.size=wo.heap.size+1:=YD;have QU:af (ai wa wo 3 #[(i:Int)]):=UM;have EG:=G (HC.below jB);have Tf:=G (HF.below jB I);go_upto_region 5 with fail;rw[<-oK];clear oK jB HC HF;have x0:wa.cell? ⟨wo,0,J⟩=N (C D (i:Int)):=QU.cell 0;go_wp2_with fail;refine(gY wa i aO EG.low).mono ?_;rintro e' w1 ⟨rfl,aB⟩;have vP:=G (EG.below aB);have wT:=G (Tf.below aB I);have tY:=G (QU.below aB I);have ed:=aB.size;clear aB EG Tf QU x0;have AY:=G (ayy (f i) (XH i) (i:Int) w (w.heap.size+1) w wo A n c l w w1 v out vP HS hn hl I
  (λm other W0 U mb pb v' mQ hm hc hb h1 h2 uS hM hP bH=>by
   have hU:aj w w U:=hc.low.trans (hb.mono (by have:=hc.low.size;omega));have h0:w.heap.size<=W0.heap.size:=hc.low.size;exact ayr Fr pc oo (f i m.s other) w (w.heap.size+1) w wo mb pb i m.s.bD other v' mQ w W0 U hc hb h1 h2
    (uS.2 _ _ _ (show w.heap.size<w1.heap.size by omega) wT aL I) (uS.2 _ _ _ (show wo.heap.size<w1.heap.size by omega) tY aL I) bH
    (F7 U i m other mb pb aO hm hU I I hM hP)))
 go_wp2_with fail;refine AY.mono ?_;rintro e' w2 ⟨v2,vR,wQ,al4,kT⟩;have zO:=G wQ;have wS:=G (al4.2 _ _ _ (show w.heap.size<w1.heap.size by omega) wT aL I);have hr:=jy;clear wQ al4 AY wT tY vP jy;rcases kT with⟨rf,rfl⟩|⟨lY,rfl,qM⟩;·rw[rf] at hr;have F:=G hr;clear hr rf;go_wp2_with fail;go_ret2;exact⟨zO.low,_,_,rfl,.inl ⟨F.symm,rfl,rfl⟩⟩
 rw[lY] at hr;have F:=G hr;clear hr lY;go_wp2_with fail;exact⟨⟨i+1,v2,vR,bR,I,zO,wS,F,I⟩,bW⟩
theorem al5{α:Type}(f:α->List ak)(sH:Nat)(hf:∀x,(f x).length=sH):∀(l:List α) (k j:Nat) (d:α),k<l.length->j<sH->((l.map f).flatten)[k*sH+j]?=(f (l.getD k d))[j]?
 | [],k,j,d,hk,hj=>absurd hk aG
 |x::l,0,j,d,hk,hj=>by
  simp only[kE,Sr]
  rw[List.getElem?_append_left (by rw[hf];omega)]
  simp
 |x::l,k+1,j,d,hk,hj=>by
  simp only[kE,Sr]
  rw[List.getElem?_append_right (by rw[hf,Nat.succ_mul];omega),hf,show(k+1)*sH+j-sH=k*sH+j from by rw[Nat.succ_mul];omega]
  have:=al5 f sH hf l k j d MR hj
  rw[this]
  simp
structure Jd(W:Y)(B:Nat)(A:Option aK)(n:Nat)(l:List (mR × ak)):Prop where
 rd:Reads W B 3 A n (Dn l)
 len:l.length=n
 body:∀q∈l,∃g k c,q.2=O (N ⟨g,0,J⟩) k c/\g<B/\um W g 0 q.1.ins/\q.1.ins.length=k/\0<k/\k<=100000000/\oC q.1.pair q.1.ins=Z
theorem Jd.below{l:List (mR × ak)}(h:Jd W B A n l)(hb:aj B W W'):Jd W' B A n l:=by refine⟨h.rd.below hb,h.len,λq hq=>?_⟩;obtain⟨g,k,c,a1,a2,a3,a4⟩:=h.body q hq;exact⟨g,k,c,a1,a2,a3.below hb a2,a4⟩
theorem Jd.at_{l:List (mR × ak)}(h:Jd W B A n l)(hi:i<n):
  ∃ad nm pr g k c is,A=N ad/\ad.block<B/\(l.getD i ay).1=⟨nm,pr,is⟩/\W.cell? (ad.add (i*3))=N (au ⟨nm.toArray⟩)/\W.cell? ⟨(ad.add (i*3)).block,(ad.add (i*3)).off+1,J⟩=N (ax pr)/\W.cell? ⟨(ad.add (i*3)).block,(ad.add (i*3)).off+2,J⟩=N (O (N ⟨g,0,J⟩) k c)/\
   g<B/\um W g 0 is/\is.length=k/\0<k/\k<=100000000/\oC pr is=Z:=by
 obtain⟨ad,rfl,hb,hc⟩:=h.rd.2 I;have rP:i<l.length:=by rw[h.len];exact hi
 have hm:l.getD i ay∈l:=by exact aek
 obtain⟨g,k,c,a1,a2,a3,a4,a5,a6,a7⟩:=h.body _ hm;have uf:∀j u,j<3->(L6 (l.getD i ay).1 (l.getD i ay).2)[j]?=N u->W.cell? (ad.add (i*3+j))=N u:=λj u hj hu=>hc _ _ (by rw[<-hu];exact al5 (λq:mR × ak=>L6 q.1 q.2) 3 (λ_=>rfl) l i j ay rP hj);generalize l.getD i ay=x at*;obtain⟨⟨nm,pr,is⟩,v⟩:=x;dsimp only at a1 a3 a4 a7;subst a1;have g0:=uf 0 _ I rfl;have g1:=uf 1 _ I rfl;have g2:=uf 2 _ I rfl;rw[<-mW,nS _ 1 I] at g1;rw[<-mW,nS _ 2 I] at g2;exact⟨ad,nm,pr,g,k,c,is,rfl,hb,rfl,g0,g1,g2,a2,a3,a4,a5,a6,a7⟩
theorem ayI(nm:ByteArray)(pr:Bool)(g k c:Nat)(is:List Ins)(W:Y)(hI:um W g 0 is)(hn:is.length=k)(h0:0<k)(jG:k<=100000000)(aX:oC pr is=Z):
  aF aa 44 #[wZ nm pr (O g k c)] W λe W'=>e=aI X/\aj W W W':=by have hg:=hI.lt (λz=>by rw[z] at hn;simp at hn;omega);have aT:=(aN W W).alloc (aC _) (ag #[.string nm,pr,O g k c] 64);have HV:=G (adX nm pr g 0 k c is (W.alloc (ag #[.string nm,pr,O g k c] 64)) (hI.below aT hg) hn h0 I);have aP:=G aT;rw[aX] at HV;clear hI aT aX;unfold wZ at*;go_enter func44,ntmps44;go_wp2_with fail;refine HV.mono ?_;rintro e' w1 ⟨rfl,aB⟩;have aM:=G (aU aP aB);clear aB;go_wp2_with fail;go_ret;exact⟨rfl,aM⟩
theorem ayJ(args:Array ak)(w:Y):(callFunc 44 args).run aa w= .ok (.enter 44 args) w:=by simp[go_sem]
theorem ayK(l:List (mR × ak))(B:Nat)(A:Option aK)(n c:Nat)(w:Y)(hr:Jd w B A n l)(hB:B<=w.heap.size)(jG:n<=1000):
  aF aa 95 #[O A n c,.func (.func 44) #[] #[]] w λe w'=>e=aI (C D (-1))/\aj w.heap.size w w':=by
 have HR:=G hr;have oo:=ayJ;clear hr;go_enter func95,ntmps95;go_wp2_with fail;go_loopw [8] (λiv wr=>∃i:Nat,iv=C D i/\i<=n/\aj w.heap.size w wr) (λiv _=>n-(intOf iv).toNat);case atStart=>exact⟨0,rfl,I,aN _ _⟩
 obtain⟨i,rfl,hi,aH⟩:=hrel;obtain⟨wo,rfl⟩:=dz wr;by_cases aO:i<n;case neg=>have HB:=G aH;clear aH;go_wp2_with fail;go_ret;exact⟨rfl,HB.E⟩
 have b3:(i:Int)<(n:Int):=I;obtain⟨ad,nm,pr,g,k,c2,is,rfl,_,_,a0,a1,a2,_,hI,hn,h0,hbg,aX⟩:=(HR.E.below (aH.mono hB)).at_ aO;have HC:=G (ayI ⟨nm.toArray⟩ pr g k c2 is wo hI hn h0 hbg aX);unfold wZ at HC;clear hI hn aX;go_wp2_with fail;refine HC.E.mono ?_;rintro e' w1 ⟨rfl,aB⟩;have HB:=G (aU aH aB);clear aB aH a0 a1 a2;go_wp2_with fail;exact⟨⟨i+1,bR,I,HB.E⟩,bW⟩
theorem ayL(l:List (mR × ak))(B:Nat)(A:Option aK)(n c:Nat)(w:Y)(hr:Jd w B A n l)(hB:B<=w.heap.size)(jG:n<=1000):
  aF aa 43 #[O A n c,.func (.func 44) #[] #[]] w λe w'=>e=aI X/\aj w w w':=by have HI:=G (ayK l B A n c w hr hB jG);clear hr;go_enter func43,ntmps43;go_wp2_with fail;refine HI.mono ?_;rintro e w1 ⟨rfl,hb⟩;go_wp2_with fail;go_ret;exact⟨rfl,hb⟩
theorem ayM(l:List (mR × ak))(cb i:Nat)(A:Option aK)(n c:Nat)(W:Y)(hr:Jd W W A n l)(uK:ai W cb 59 #[O A n c])(hi:i<n)(jG:n<=1000):
  aF aa 46 #[i,aQ cb] W λe W'=>e=aI (ax (l.getD i ay).1.pair)/\aj W W W':=by obtain⟨ad,nm,pr,g,k,c2,is,rfl,_,hx,_,a1,_,_,hI,hn,_,_,aX⟩:=hr.at_ hi;have x0:W.cell? ⟨cb,0,J⟩=N (O (N ad) n c):=uK.cell 0;have b3:(i:Int)<(n:Int):=I;rw[hx];clear hr uK hI hn aX hx;go_enter func46,ntmps46;go_wp2_with fail;go_ret;exact⟨rfl,aN _ _⟩
theorem ayN{a b c e:ak}(h:ai w q 74 #[a,b,c,d,e])(h6:tmps.getD 5 undef=aQ q)(h7:tmps.getD 6 undef=f):
  (results f47 tmps).run aa w= .ok (bz #[aD #[a,b,c,d,e],f]) w:=by have c0:=h.cell 0;have c1:=h.cell 1;have c2:=h.cell 2;have c3:=h.cell 3;have c4:=h.cell 4;simp only[iH,iI,iX] at c0 c1 c2 c3 c4;have e6:(tmps[5]?).getD undef=aQ q:=U8;have e7:(tmps[6]?).getD undef=f:=U9;simp[results,results47,go_sem,c0,c1,c2,c3,c4,e6,e7]
theorem Km.slice{o:Option (List (Int × Int))}{B kd e1 o1 r1 bD gK rl c:Int}{Bn:Nat}
  (h:match o with|J=>c=2/\v=O J 0 0|N ps=>c=0/\w'.ownsRow Bn 76 2 v ps.length (Bg ps)/\(ps≠ []->kd=10/\e1=bD/\o1=gK/\r1=rl)):∃A n' c',v=O A n' c':=by
 cases o with
 |none=>exact⟨_,_,_,h.2⟩
 |some ps=>obtain⟨A,c',e⟩:=eO h.2.1;exact⟨_,_,_,e⟩
theorem al6(h:R:=by
  cases fo with
  |none=>exact hr
  |some pp=>exact⟨hr.1,aaO (Fj hr.2.1 bB) (λe=>by have:=lJ hr.2.1 _ e;simp only[aW] at this;omega) _ _ _ _ _,hr.2.2⟩):R:=h
theorem ayO(l:List (mR × ak))(cb i:Nat)(A:Option aK)(n c:Nat)(B:Nat)(m:gF)(other:Int)(mb pb:Nat)(W:Y)(hr:Jd W B A n l)(uK:ai W cb 59 #[O A n c])(hi:i<n)(jG:n<=1000)(hM:ru W mb m other (O J 0 0) pb 0)(hP:eD mE W pb [])(hm:m.ok W B)(hBm:B<=mb)(QP:B<=pb):
  aF aa 47 #[aQ (N ⟨mb,0,J⟩),C D i,aQ (N ⟨cb,0,J⟩)] W (Km (vK (dQ (lS m.s other) (l.getD i ay).1.ins [] [] [])) m.s.bD other i W.heap.size mb pb W):=by
 obtain⟨ad,nm,pr,g,k,c2,is,rfl,hb,hx,a0,a1,a2,hg,hI,hn,h0,hbg,aX⟩:=hr.at_ hi;have x0:W.cell? ⟨cb,0,J⟩=N (O (N ad) n c):=uK.cell 0;have b3:(i:Int)<(n:Int):=I;rw[hx];have pK:=hM.lt;have Bv:=hP.lt;have qZ:=uK.lt;have kP:(ad.add (i*3)).block<W.heap.size:=E9;have aT:aj W.heap.size W (W.alloc (ag #[C D 0,C D 0,C D 0,C D 0,O J 0 0] 74)):=(aN _ _).alloc (aC _) _;have hoc:je pr is 0 0=Z:=by unfold oC at aX;rw[bq] at aX;exact aX.2
 have jQ:=G (ayk mb pb m other B _ (hM.QN aT) (hP.below aT Bv) (hm.below (aT.mono I)) hBm QP nm pr g k c2 is (hI.below aT I) hn I I I h0 hoc i);have HB:af (ai (W.alloc (ag #[C D 0,C D 0,C D 0,C D 0,O J 0 0] 74)) W.heap.size 74 #[C D 0,C D 0,C D 0,C D 0,O J 0 0]):=ai.new W _ _;have HO:=G (mG.of_below (mb:=mb) (pb:=pb) aT);unfold wZ at jQ;dsimp only
 generalize vK (dQ (lS m.s other) is [] [] [])=fo at*;clear hr uK hI hn aX hx hM hP hm aT hoc;go_enter func47,ntmps47;go_wp2_with fail;refine jQ.E.mono ?_;rintro e' w6 ⟨⟨v0,kd,g1,g2,g3,fc,rfl,kT⟩,rW⟩;obtain⟨A0,n0,c0,rfl⟩:=Km.slice (B:=0) kT;have GN:=G kT;have qN:=G (HO.E.trans rW);have eY:=G (HB.E.gK rW I I);have zf:=eY.E.frozen;have z0:w6.cell? ⟨W.heap.size,0,J⟩=N (C D 0):=eY.E.cell 0;have z1:w6.cell? ⟨W.heap.size,1,J⟩=N (C D 0):=eY.E.cell 1;have z2:w6.cell? ⟨W.heap.size,2,J⟩=N (C D 0):=eY.E.cell 2;have z3:w6.cell? ⟨W.heap.size,3,J⟩=N (C D 0):=eY.E.cell 3;have z4:w6.cell? ⟨W.heap.size,4,J⟩=N (O J 0 0):=eY.E.cell 4;clear kT rW a0 a1 a2 x0 jQ HB HO;go_wp2_with fail;refine eX (ayN (GJ eY.E) rfl rfl) rfl ⟨⟨_,_,_,_,_,_,rfl,?_⟩,qN.E.xg (GK (aN _ _) (aC _))⟩;have hr:=GN.E;exact al6
def XI(bad:Bool)(o:Option (List jh))(w:Y)(e:Ending)(w':Y):Prop:=
 aj w.heap.size w w'/\∃v c,e=aI (bz #[v,C D c])/\((bad=Z/\c=1/\v=O J 0 0)\/(bad=X/\o=J/\c=2/\v=O J 0 0)\/∃ps,bad=X/\o=N ps/\c=0/\yV w' w.heap.size v ps)
theorem XI.of{bad:Bool}(hb:bad=X){o:Option (List jh)}{w1:Y}{c:Int}(hw:aj w.heap.size w w1)(h:aj w1.heap.size w1 w'/\((o=J/\c=2/\v=O J 0 0)\/∃ps,o=N ps/\c=0/\yV w' w1.heap.size v ps)):XI bad o w (aI (bz #[v,C D c])) w':=by
 refine⟨aU hw h.1,v,c,rfl,?_⟩;rcases h.2 with⟨a,b,d⟩|⟨ps,a,b,d⟩;·exact .inr (.inl ⟨hb,a,b,d⟩)
 exact .inr (.inr ⟨ps,hb,a,b,d.mono hw.size⟩)
theorem ayP(args:Array ak)(w:Y):(callFunc 46 args).run aa w= .ok (.enter 46 args) w:=by simp[go_sem]
theorem ayQ(args:Array ak)(w:Y):(callFunc 47 args).run aa w= .ok (.enter 47 args) w:=by simp[go_sem]
theorem al7(h:R:=by go_wp2_with fail;refine Ck.mono ?_;rintro e' w4 ⟨bu,v,cc,rfl,kT⟩;have GN:=G kT;have dE:=G bu;clear bu kT Ck;go_wp2_with fail;go_ret2;exact XI.of DZ bC ⟨dE,GN⟩):R:=h
theorem ayR(l:List (mR × ak))(A:Option aK)(n c:Nat)(ls:List gF)(A2:Option aK)(n2 c2:Nat)(w:Y)(hr:Jd w w A n l)(hn:n<=40)(hS:Bf w w A2 n2 ls)(hl:ls.length=n2)(Gb:n2<=6)(hE:∀k,k<n2->(ls.getD k ay).s.bD=(k:Int)):
  aF aa 12 #[O A n c,O A2 n2 c2] w (XI (ls.any yY) (vL (λi s o=>vK (dQ (lS s o) (l.getD i ay).1.ins [] [] [])) (λi=>(l.getD i ay).1.pair) (ls.map (·.s)) n 0 []) w):=by
 have HR:=G hr;have HS:=G hS;have HL:=G hl;obtain⟨w1,kg⟩:∃w1:Y,w1=w.alloc (ag #[O A n c] 59):=⟨_,rfl⟩;have aB:aj w w w1:=abp;have ed:w1.heap.size=w.heap.size+1:=YC;have HX:af (ai w1 w 59 #[O A n c]):=afD;have HV:=G (al2 ls w A2 n2 c2 w1 (hS.below aB) hl Gb I hE);have aM:=G aB;clear hr hS hl hE aB;go_enter func12,ntmps12;go_upto_region 1 with fail;rw[<-kg];clear kg;go_wp2_with fail;refine HV.mono ?_;rintro e' w2 ⟨rfl,aJ⟩;have aS:=G (aU aM aJ);have eu:=G (HX.below aJ I);have fw:=aJ.size;clear aJ HV HX aM;cases DZ:ls.any yY with
 |true=>go_wp2_with fail;go_ret2;exact⟨aS,_,_,rfl,.inl ⟨DZ,rfl,rfl⟩⟩
 |false=>
  have x0:w2.cell? ⟨w,0,J⟩=N (O A n c):=eu.cell 0;have HC:=G (ayL l w A n c w2 (HR.below aS) I I);go_wp2_with fail;refine HC.mono ?_;rintro e' w3 ⟨rfl,aR⟩;have bC:=G (aU aS aR);have fD:=G (eu.below aR I);have fM:=aR.size;clear aR HC eu aS x0;have x0:w3.cell? ⟨w,0,J⟩=N (O A n c):=fD.cell 0;have Ck:=G (al3 46 47 (aQ w) ayP ayQ
   (λi s o=>vK (dQ (lS s o) (l.getD i ay).1.ins [] [] [])) (λi=>(l.getD i ay).1.pair) A2 n2 c2 ls n w3 (by
    have h:=HS.below bC
    exact⟨h.1.more I,λm hm=>(h.2 m hm).more I⟩) I HL hn
   (λW i hi hW=>ayM l w i A n c W (by
    have h:=(HR.below bC).below (hW.mono I)
    have:=hW.size
    exact⟨h.rd.more I,h.len,λq hq=>by obtain⟨g,k,c,a1,a2,a3⟩:=h.body q hq;exact⟨g,k,c,a1,I,a3⟩⟩) (fD.below hW I) hi I)
   (λW i m other mb pb hi hm hW h1 h2 hM hP=>ayO l w i A n c w m other mb pb W ((HR.below bC).below (hW.mono I)) (fD.below hW I) hi I hM hP
    (((HS.2 m hm).below bC).below (hW.mono I)) I I))
  exact al7
section
open Go.Sort
theorem al9{T:bM}{zs:List Int}(h:w.ownsRow base T 1 (O g zs.length c) zs.length (zs.map (C D))):
  base<=g/\zs.length<=c/\c<=maxLen/\∃cur,w.heap[g]?=N (ag cur T (0,0))/\cur.size=c*1/\Holds (C D) w g 0 zs.toArray:=by
 obtain⟨_,h⟩:=h;rcases h with⟨hv,_⟩|⟨g',cap,cur,hv,h1,h2,h3,h4,h5,h6⟩;·cases hv
 injection hv with e1 _ e3;injection e1 with e1;injection e1 with e1;subst e1;subst e3;exact⟨h1,h3,h4,cur,h2,h5,holds_of_blockI h2 (by rw[Oo] at h6;exact h6)⟩
theorem ayS(zs:List Int)(w:Y)(h:w.ownsRow base 3 1 (O g zs.length c) zs.length (zs.map (C D)))(bV:zs.length<=1000000):
  aF aa 167 #[O g zs.length c] w λe w'=>e=aI (bz #[])/\w'.ownsRow base 3 1 (O g zs.length c) zs.length ((nP zs).map (C D))/\w.grownBy w' (N g):=by
 obtain⟨hb,hc,hm,cur,hx,hs,hH⟩:=al9 h;refine(slices_Sort_int g 0 c zs w hH (JQ.1 hx).1 I).mono ?_;rintro e w' ⟨rfl,n,os,rfl⟩;have hp:(zs.mergeSort (λx y=>decide (x<=y))).Perm zs:=List.mergeSort_perm _ _;have eP:(zs.mergeSort (λx y=>decide (x<=y))).Pairwise (· <= ·):=by have h:=List.pairwise_mergeSort (le:=λx y:Int=>decide (x<=y)) (by intro a b c h1 h2;simp at *;omega) (by intro a b;simp;omega) zs;exact h.imp (λh=>by simpa using h)
 have e1:=ahP hp eP;rw[e1];exact⟨rfl,ownsRow_sortedI (by rw[(JU zs).length_eq]) hb hx hc hm hs,grownBy_sortedI _⟩
theorem ayT(zs:List Int)(w:Y)(h:w.ownsRow base 3 1 (O g zs.length c) zs.length (zs.map (C D)))(bV:zs.length<=1000000):
  aF aa 168 #[O g zs.length c] w λe w'=>e=aI (O g (AV zs).length c)/\w'.ownsRow base 3 1 (O g (AV zs).length c) (AV zs).length ((AV zs).map (C D))/\w.grownBy w' (N g):=by
 obtain⟨hb,hc,hm,cur,hx,hs,hH⟩:=al9 h;refine(slices_Compact_int g 0 c zs w hH I hc).mono ?_;rintro e w' ⟨rfl,q,rfl⟩;have fO:(AV zs).length<=zs.length:=by unfold AV Lt;rw[oz];have:=List.length_filter_le (keeps zs.toArray) (rQ zs.length);rwa [List.length_range] at this
 have e0:putRow (C D) (QV w q) g 0 (Lib.compact zs++nU (zs.length-(Lib.compact zs).length) 0).toArray=grow (putRow (C D) (QV w q) g 0 (AV zs++nU (zs.length-(AV zs).length) 0).toArray) #[]:=(grow_empty _).symm;rw[e0];have h1:=ownsRow_sortedI (n:=q) (os:=#[]) (ts:=AV zs++nU (zs.length-(AV zs).length) 0) (ss:=zs) (by rw[eB,Xd];omega) hb hx hc hm hs;have h2:=aaL h1 fO;rw[Oo,<-List.map_take,List.take_left' rfl] at h2;exact⟨rfl,h2,grownBy_sortedI _⟩
theorem ayU{l:List cZ}{j:Nat}(hj:j<l.length):C9 (l.take (j+1))=C9 (l.take j)++if(l.getD j ay).kind=3 then[(l.getD j ay).dM] else[]:=by
 unfold C9;have e:l.getD j ay=l[j]:=by simp[dO,hj]
 rw[sD hj,List.filter_append,oM,e];congr 1;by_cases h:l[j].kind=3;·rw[if_pos h,List.filter_cons_of_pos CB];rfl
 rw[if_neg h,List.filter_cons_of_neg CB];rfl
theorem ama(l:List cZ):(C9 l).length<=l.length:=by unfold C9;rw[oz];exact List.length_filter_le _ _
theorem ayV(r:di)(fO:r.stmts.length<=30)(w:Y)(S:Nat->Prop)(A:Option aK)(c:Nat)(hA:tZ w S [r] A 1 c)(hS:∀q,S q->q<w.heap.size):
  aF aa 103 #[O A 1 c] w λe w'=>∃v,e=aI v/\w'.ownsRow w 3 1 v (Lu r).length ((Lu r).map (C D))/\aj w w w':=by
 obtain⟨i0,gz,fu,gq,fG⟩:=info_parts ac7;have HA:=G hA;have jc:=G hS;clear hA hS;go_enter func103,ntmps103;go_wp2_with fail;go_loopw [3,10] (λov iv wr=>∃(i:Nat) (acc:List Int),iv=C D i/\i<=1/\(i=0->acc= [])/\(i=1->acc=yJ r)/\wr.ownsRow w 3 1 ov acc.length (acc.map (C D))/\aj w w wr) (λ_ iv _=>1-(intOf iv).toNat);case atStart=>exact⟨0,[],rfl,I,(λ_=>rfl),(λh=>by cases h),ng _ _ _ _,aN _ _⟩
 obtain⟨i,acc,rfl,hi,ha0,wY,aV,aH⟩:=hrel;obtain⟨wo,rfl⟩:=dz wr;have eP:=aH.size;have HB:=G aH;by_cases aO:i<1;case neg=>
  have k3:decide ((i:Int)<1)=X:=fI;have hacc:=wY I;subst hacc;have nC:(yJ r).length<=1000000:=by unfold yJ;rw[iP];have:=ama r.stmts;omega
  obtain⟨g,co,rfl,_,_⟩:=World.ownsRow.form aV (by unfold yJ;simp);have Ci:=G (ayS (yJ r) wo aV nC);have lU:=G aV;have hcode:af (Lu r=AV (nP (yJ r))):=rfl;have yF:(nP (yJ r)).length=(yJ r).length:=(JU _).length_eq;clear ha0 wY aV;generalize yJ r=zs at*;go_wp2_with fail;refine Ci.mono ?_;rintro e' w1 ⟨rfl,GM,hg1'⟩;rw[<-yF] at GM;have Ck:=G (ayT (nP zs) w1 GM I);have HOX:=G GM;rw[yF] at Ck;have aM:=G (aH.trans (tu lU hg1' I));clear aH GM;go_wp2_with fail;refine Ck.mono ?_;rintro e' w2 ⟨rfl,nT,amb⟩;have aS:=G (aM.trans (tu HOX amb (by have:=aM.size;omega)));have iW:=G nT;clear nT hg1' amb;go_wp2_with fail;go_ret;exact⟨_,rfl,by rw[hcode.E];exact iW,aS⟩
 obtain rfl:i=0:=I;have amc:af (acc= []):=ha0 rfl;have aDA:acc.length<=5:=by rw[amc.E];simp
 have kG:=HA.keep (w':=wo) (S':=S) (λq hq=>aH.block q (jc q hq)) (λq hq=>hq);obtain⟨ga,A',n',c',rfl,F5,a0,a1,a2,a3,fP⟩:=kG.2.2 0 I;have gP:af (zt wo S r.stmts A' n' c'):=fP;have GU:=G aH;have PY:af (n'=r.stmts.length):=fP.1;have acK:n'<=30:=by have h1:n'=r.stmts.length:=fP.1;omega
 simp only[Ih,Nat.zero_mul] at a0 a1 a2 a3;have HP:af (yJ r=r.az::C9 r.stmts):=rfl;obtain⟨Ao,co,rfl⟩:=eO aV;have lU:=G aV;have Lm:af (r.stmts.length<=30):=fO;clear fP kG ha0 wY aV fO;generalize r.name=nm at*;generalize r.pair=pr at*;generalize r.az=az at*;generalize r.stmts=ss at*;obtain⟨wa,oK⟩:∃wa:Y,wa=wo.alloc (ag #[nm,pr,O A' n' c',az] 121):=⟨_,rfl⟩;have jB:aj wo wo wa:=Rh;have hsa:wa.heap.size=wo.heap.size+1:=YD;have nA:af (ai wa wo 121 #[nm,pr,O A' n' c',az]):=UM;have nN:=G (aH.trans (jB.mono eP));have Je:=G (own_below lU jB);go_upto_region 5 with fail;rw[<-oK];have QW:=G hsa;have hwb:w.heap.size<=wa.heap.size:=I;clear oK jB aH HB lU a0 a1 a2 a3 hsa;have x2:wa.cell? ⟨wo,2,J⟩=N (O A' n' c'):=nA.cell 2;have x3:wa.cell? ⟨wo,3,J⟩=N (C D az):=nA.cell 3;go_wp2_with(at_builtin;refine pX _ rfl (.tmp 14) (.tmp 17) _ rfl w.heap.size 3 i0 _ 1 8 underlying174 gz fu gq fG rfl I _ acc.length (acc.map (C D)) rfl (Je.alloc _) (wa.heap.size+1) (N ⟨wa,0,J⟩) 1 1 [C D az] rfl (mX wa #[az] 3 1 rfl) rZ lH I bB ?_;intro v6 w6 dw bU iT;have eY:=G ((nN.alloc I (ag #[az] 3)).trans (tu (Je.alloc _) bU bB));have Eh:=G ((nA.alloc (ag #[az] 3)).grown bU (λe=>iQ Je nA aL e.symm));have x6:w6.cell? ⟨wo,2,J⟩=N (O A' n' c'):=Eh.cell 2;obtain⟨A6,c6,rfl⟩:=eO dw;have qN:af (w6.ownsRow w 3 1 (O A6 (acc.length+1) c6) (acc++ [az]).length ((acc++ [az]).map (C D))):=afo;have Eg:wo.heap.size+1<=w6.heap.size:=Eh.lt;clear dw bU iT x2 x3 nA Je nN);go_loopw [3,22] (λov jv wr=>∃(j:Nat) (acc:List Int),jv=C D j/\j<=n'/\acc=az::C9 (ss.take j)/\wr.ownsRow w 3 1 ov acc.length (acc.map (C D))/\aj w w wr) (λ_ jv _=>n'-(intOf jv).toNat);case atStart=>exact⟨0,acc++ [az],rfl,I,by rw[amc.E];rfl,qN,eY⟩
 clear Eh qN eY x6 Eg QW hwb eP;obtain⟨j,acc,rfl,hj,hacc,aV,aH⟩:=hrel;obtain⟨wq,rfl⟩:=dz wr;have XA:=aH.size;have HB:=G aH;have HO:=G aV;have qU:=G hacc;have kP:acc.length<=100:=by rw[hacc,iP];have:=ama (ss.take j);rw[xq] at this;omega
 obtain⟨Aq,cq,rfl⟩:=eO aV;clear hacc aV;by_cases hlj:j<n';case neg=>
  have F:af (acc=yJ r):=by show _=_;rw[qU.E,HP.E,o7 (by rw[<-PY.E];omega)]
  clear aH;go_wp2_with fail;exact⟨⟨1,acc,KO,I,(λh=>by cases h),(λ_=>F),HO,HB⟩,Fb⟩
 have b4:(j:Int)<(n':Int):=I;have oN:j<ss.length:=by rw[<-PY.E];exact hlj
 have BL:=gP.keep (w':=wq) (S':=S) (λq hq=>(aH.block q (jc q hq)).trans (GU.block q (jc q hq)).symm) (λq hq=>hq);obtain⟨gs,A2,n2,c2,Lp,hgs,⟨d0,d1,d2,d3,d4,d5,d6,d7,d8⟩,kY⟩:=BL.nine hlj;have Es:=G (ayU oN);subst Lp;clear BL kY oN;generalize ss.getD j ay=st at*;obtain⟨kd,ac,fQ,ex⟩:=st;dsimp only at d0 d1 d2 d3 d4 d5 d6 d7 d8 Es;generalize ex.hd=eh at*;obtain⟨k2,lN,lQ,gQ,XG⟩:=eh;obtain⟨wa,oK⟩:∃wa:Y,wa=wq.alloc (ag #[kd,ac,fQ,k2,lN,lQ,gQ,XG,O A2 n2 c2] 130):=⟨_,rfl⟩;have jB:aj wq wq wa:=Rh;have hsa:w.heap.size<=wa.heap.size:=by rw[oK];simp only[aW];omega
 have nA:af (ai wa wq 130 #[kd,ac,fQ,k2,lN,lQ,gQ,XG,O A2 n2 c2]):=by show ai _ _ _ _;rw[oK];exact ai.new wq _ _
 have nN:=G (aH.trans (jB.mono XA));have Je:=G (own_below HO jB);go_upto_region 9 with fail;rw[<-oK];clear oK jB aH HB HO d0 d1 d2 d3 d4 d5 d6 d7 d8;have x0:wa.cell? ⟨wq,0,J⟩=N (C D kd):=nA.cell 0;have x1:wa.cell? ⟨wq,1,J⟩=N (C D ac):=nA.cell 1;by_cases kV:kd=3;·subst kV;rw[if_pos rfl] at Es;go_wp2_with(at_builtin;refine pX _ rfl (.tmp 29) (.tmp 32) _ rfl w.heap.size 3 i0 _ 1 8 underlying174 gz fu gq fG rfl I _ acc.length (acc.map (C D)) rfl (Je.alloc _) (wa.heap.size+1) (N ⟨wa,0,J⟩) 1 1 [C D ac] rfl (mX wa #[ac] 3 1 rfl) rZ lH I bB ?_;intro v6 w6 dw bU iT;have eY:=G ((nN.alloc I (ag #[ac] 3)).trans (tu (Je.alloc _) bU bB));obtain⟨A6,c6,rfl⟩:=eO dw;have qN:af (w6.ownsRow w 3 1 (O A6 (acc.length+1) c6) (acc++ [ac]).length ((acc++ [ac]).map (C D))):=afo;clear dw bU iT x0 x1 nA Je nN);exact⟨⟨j+1,acc++ [ac],bR,I,by rw[qU.E,Es.E];rfl,qN,eY⟩,bW⟩
 rw[if_neg kV,List.append_nil] at Es;have k5:(kd==3)=X:=by simpa using kV
 clear kV;go_wp2_with fail;exact⟨⟨j+1,acc,bR,I,by rw[qU.E,Es.E],Je,nN⟩,bW⟩
end
theorem aeq:(aa.info? 78).map (λi=>(i.zero,i.size,i.bytes))=N (N (aD #[C D 0,C D 0,C D 0,C D 0]),4,32):=by kernel_rfl
theorem amd{S:Nat->Prop}{r:di}(h:zt W S r.stmts A n c)(hS:∀q,S q->q<W.heap.size):
  tZ (W.alloc (ag #[r.name,r.pair,O A n c,r.az] 121)) (λq=>S q\/q=W.heap.size) [r] (N ⟨W,0,J⟩) 1 1:=by refine⟨rfl,aC _,λi hi=>?_⟩;obtain rfl:i=0:=I;have hb:=ai.new W 121 #[r.name,r.pair,O A n c,r.az];exact⟨W.heap.size,A,n,c,rfl,.inr rfl,hb.cell 0,hb.cell 1,hb.cell 2,hb.cell 3,h.keep (λq hq=>nK W _ q (hS q hq)) (λq hq=> .inl hq)⟩
theorem ayW{c:Int}(h1:1<=c)(h2:c<=99999):Dh (uh c):=by
 have e1:IntKind.i64.min= -9223372036854775808:=aL;have e2:IntKind.i64.max=9223372036854775807:=aL;have h:∀x:Int,0<=x->x<=99999->fU x:=λx a b=>by show(decide (IntKind.i64.min<=x)&&decide (x<=IntKind.i64.max))=Z;rw[e1,e2,decide_eq_true I,decide_eq_true I];rfl
 exact⟨h _ (by show 0<=c;omega) h2,h 1 I I,h 1 I I,h 0 I I⟩
theorem ayX(p:List di)(aX:jT p=Z)(hp:∀r∈p,zu r)(cz:Int->Bool)(jR:mg cz [] p=Z)(w:Y)(hE:Env w)(S:Nat->Prop)(A:Option aK)(na ca:Nat)
  (hA:tZ w S p A na ca) (hS:∀q,S q->q<w.heap.size):
  aF aa 49 #[O A na ca] w λe w'=>e=aI (ax Z)/\aj w.heap.size w w':=by
 have zx:= @run_makeMap aa;have bH:=hA.1;have ajV:p.length<=40:=abk;have AL:na<=40:=I;have hV:=ZW p hp S A na ca w hE hA hS I;rw[aX] at hV;have HV:=G hV;have gH:=G bH;have HA:=G hA;have jc:=G hS;have HP:=G hp;have ED:=G hE;have nR:=G jR;have dI:af (∀r∈p,jK r=Z):=by unfold jT at aX;simp only[bq] at aX;exact λr hr=>xD.1 aX.1 r hr
 obtain⟨i0,gz,fu,gq,fG⟩:=info_parts aeq;clear hA hS hp hE bH hV aX jR;go_enter func49,ntmps49;go_wp2_with fail;refine HV.E.mono ?_;rintro e w1 ⟨rfl,aB⟩;have aM:af (aj w.heap.size w (w1.alloc (.map #[] 0))):=aB.alloc aB.size _;have ed:=aB.size;have Ol:=G (rT.made w1);clear aB HV;go_wp2_with fail;go_loopw [17] (λiv wr=>∃(i:Nat) (seen:List (List UInt8)),iv=C D i/\i<=na/\aj w.heap.size w wr/\rT wr w1.heap.size seen/\mg cz seen (p.drop i)=Z) (λiv _=>na-(intOf iv).toNat);case atStart=>exact⟨0,[],rfl,I,aM.E,Ol.E,nR.E⟩
 clear Ol aM nR;obtain⟨i,seen,rfl,hi,aH,nO,jR⟩:=hrel;obtain⟨wo,rfl⟩:=dz wr;have bA:=G aH;have vF:=G nO;have nR:=G jR;have eP:=aH.size;have II:=nO.lt;clear aH nO jR;by_cases aO:i<na;case neg=>go_wp2_with fail;go_ret;exact⟨rfl,bA.E⟩
 have b3:(i:Int)<(na:Int):=I;have dA:i<p.length:=G9;have kG:=HA.E.keep (w':=wo) (S':=S) (λq hq=>bA.E.block q (jc.E q hq)) (λq hq=>hq);obtain⟨ga,A',n',c',rfl,F5,a0,a1,a2,a3,fP⟩:=kG.2.2 i aO;have dK:p.getD i ay∈p:=by exact Wd
 have Bb:=dI.E _ dK;have fO:=HP.E _ dK;have jR:=nR.E;rw[show p.drop i=p.getD i ay::p.drop (i+1) from by rw[DY dA];simp[dO,dA]] at jR;unfold mg at jR;rw[bq,bq,Bool.not_eq_true'] at jR;obtain⟨⟨ql,hcr⟩,hcn⟩:=jR;have HCN:=G hcn;have ayY:=G ql;have gP:=G fP;have DK:=G Bb;have ayZ:=G fO;obtain⟨hch,ame⟩:=atm Bb hcr;have QX:=G (bI hch ame);have avP:=(NU Bb).1;have ay0:=(NU Bb).2.1;obtain⟨hpo,nC⟩:=aiE Bb;have Ck:af ((∀x∈Lu (p.getD i ay),iw x=Z)/\(Lu (p.getD i ay)).length<=31):=⟨λx hx=>hpo x ((aiC _).2 x |>.1 hx),ja (aiD _) nC⟩;clear kG dK dA fP Bb fO ql hcr hcn hch ame hpo nC nR;generalize p.getD i ay=r at*;generalize Qm:r.name=nm at*;generalize Qn:r.pair=pr at*;generalize Tq:r.az=az at*;obtain⟨wa,oK⟩:∃wa:Y,wa=wo.alloc (ag #[au ⟨nm.toArray⟩,ax pr,O A' n' c',C D az] 121):=⟨_,rfl⟩;have jB:aj wo.heap.size wo wa:=Rh;have hsa:wa.heap.size=wo.heap.size+1:=YD;have nA:af (ai wa wo.heap.size 121 #[au ⟨nm.toArray⟩,ax pr,O A' n' c',C D az]):=UM;have nN:=G (bA.E.trans (jB.mono eP));have HNA:=G (vF.E.below jB);have aer:=G (gP.E.keep (w':=wa) (S':=S) (λq hq=>jB.block q Js) (λq hq=>hq));have ku:af (tZ (wa.alloc (ag #[au ⟨nm.toArray⟩,ax pr,O A' n' c',C D az] 121)) (λq=>S q\/q=wa.heap.size) [r] (N ⟨wa.heap.size,0,J⟩) 1 1):=by have h:=amd aer.E (λq hq=>by have:=jc.E q hq;omega);rw[Qm,Qn,Tq] at h;exact h
 have qP:=G (ayV r ay0 _ _ _ _ ku.E (λq hq=>by
  rcases hq with hq|hq;·have:=jc.E q hq;simp only[aW];omega
  rw[hq];simp only[aW];omega))
 go_upto_region 7 with fail;rw[<-oK];have QW:=G hsa;clear oK jB hsa a0 a1 a2 a3 bA vF gP ku;obtain⟨x0,x1,x2,x3⟩:=(show _/\_/\_/\_ from⟨nA.E.cell 0,nA.E.cell 1,nA.E.cell 2,nA.E.cell 3⟩);simp only[iH,iX,iI] at x0 x1 x2 x3;go_wp2_with fail;refine qP.E.mono ?_;rintro e' w2 ⟨v,rfl,hov,aJ⟩;obtain⟨Av,cv,rfl⟩:=eO hov;have XJ:aj wa.heap.size wa w2:=((aN _ _).alloc (aC _) _).trans (aJ.mono bB);have eu:=G (nA.E.below XJ nA.E.lt);have Ui:=G (HNA.E.below XJ);have amf:=G (aer.E.keep (w':=w2) (S':=S) (λq hq=>XJ.block q (by have:=jc.E q hq;have:=QW.E;omega)) (λq hq=>hq));have aS:=G (nN.E.trans (XJ.mono (by have:=QW.E;omega)));have WW:=G hov;obtain⟨cs,ql⟩:∃cs,cs=Lu r:=⟨_,rfl⟩;rw[<-ql] at WW Ck QX;have hc31:=Ck.E.2;rw[<-ql];clear ql hov aJ XJ qP nA HNA aer nN x0 x1 x2 x3;go_wp2_with fail;go_loopw [6,25] (λov jv wr=>∃(j:Nat) (l:List bE),jv=C D j/\j<=cs.length/\l=(cs.take j).map uh/\wr.ownsRow w2.heap.size 78 4 ov l.length (jS l)/\aj w2.heap.size w2 wr) (λ_ jv _=>cs.length-(intOf jv).toNat);case atStart=>exact⟨0,[],rfl,I,rfl,ng _ _ _ _,aN _ _⟩
 obtain⟨j,l,rfl,hj,hl,aV,aH⟩:=hrel;obtain⟨wq,rfl⟩:=dz wr;have XA:=aH.size;have HBQ:=G aH;have HOQ:=G aV;have HL:=G hl;have BO:l.length<=31:=by rw[hl,oz,xq];omega
 obtain⟨Aq,cq,rfl⟩:=eO aV;clear hl aV;by_cases hlj:j<cs.length;case pos=>
  have b4:(j:Int)<(cs.length:Int):=I;have KV:=own_below WW.E aH;obtain⟨g,cc',he,_,_⟩:=World.ownsRow.form KV I;injection he with Ja he2 he3;subst Ja;have GL:=World.ownsRow.cellAt KV j I;have hkg:wq.cell? ⟨g,j,J⟩=N (C D (cs.getD j 0)):=by rw[GL];simp[dO,hlj]
  have CP:af ((cs.take (j+1)).map uh=(cs.take j).map uh++ [uh (cs.getD j 0)]):=by show _=_;rw[sD hlj,oM];simp[dO,hlj]
  clear KV GL aH he2 he3;generalize cs.getD j 0=cd at*;go_wp2_with(at_builtin;refine pX _ rfl (.tmp 29) (.tmp 32) _ rfl w2.heap.size 78 i0 _ 4 32 underlying24 gz fu gq fG rfl I _ l.length (jS l) rfl (HOQ.E.alloc _) (wq.heap.size+1) (N ⟨wq.heap.size,0,J⟩) 1 1 [C D cd,C D 1,C D 1,C D 0] rfl (mX wq #[C D cd,C D 1,C D 1,C D 0] 78 4 rfl) rZ lH I bB ?_;intro v6 w6 dw bU iT;have eY:=G ((HBQ.E.alloc I (ag #[C D cd,C D 1,C D 1,C D 0] 78)).trans (tu (HOQ.E.alloc _) bU bB));obtain⟨A6,c6,rfl⟩:=eO dw;have qN:af (w6.ownsRow w2.heap.size 78 4 (O A6 (l.length+1) c6) (l++ [uh cd]).length (jS (l++ [uh cd]))):=(by rw[eB,jS,List.flatMap_append];exact dw);clear dw bU iT);exact⟨⟨j+1,l++ [uh cd],bR,I,by rw[HL.E,CP.E],qN.E,eY.E⟩,bW⟩
 have uL:af (l=cs.map uh):=by show _=_;rw[HL.E,o7 I]
 have QY:=G (eu.E.below aH eu.E.lt);have HNQ:=G (Ui.E.below aH);have nQ:=G (aS.E.trans (aH.mono UZ));have amg:=G (amf.E.keep (w':=wq) (S':=S) (λq hq=>aH.block q (by have:=jc.E q hq;have:=aS.E.size;omega)) (λq hq=>hq));have hwq:w.heap.size<=wq.heap.size:=nQ.E.size;have ku:af (tZ (wq.alloc (ag #[au ⟨nm.toArray⟩,ax pr,O A' n' c',C D az] 121)) (λq=>S q\/q=wq.heap.size) [r] (N ⟨wq.heap.size,0,J⟩) 1 1):=by have h:=amd amg.E (λq hq=>by have:=jc.E q hq;omega);rw[Qm,Qn,Tq] at h;exact h
 have tL:aj wq.heap.size wq (wq.alloc (ag #[au ⟨nm.toArray⟩,ax pr,O A' n' c',C D az] 121)):=(aN _ _).alloc (aC _) _;have WR:=G (ajU [r] (by unfold jT;simp[DK.E]) (λx hx=>by rw[lF.1 hx];exact ayZ.E) l Aq l.length cq wq.heap.size _ (ED.E.below (nQ.E.trans (tL.mono hwq)) ED.E.size) _ _ _ _ ku.E (λq hq=>by
  rcases hq with hq|hq;·have:=jc.E q hq;simp only[aW];omega
  ·rw[hq];simp only[aW];omega) ((Reads.uA HOQ.E).alloc (aC _) _) aG I (λx hx=>by
  rw[uL.E] at hx;obtain⟨c,hc,rfl⟩:=qw.1 hx;have h:=Ck.E.1 c hc;unfold iw at h;rw[bq,decide_eq_true_eq,decide_eq_true_eq] at h;exact ayW h.1 h.2))
 have HT:af ((mq l Z&&mg (fJ l) [] [r])=Z):=by show _=_;rw[uL.E,QX.E.1];have h:=QX.E.2;unfold mg mg;show(Z&&(!([]:List (List UInt8)).contains r.name&&qj (fJ (cs.map uh)) r&&Z))=Z;rw[show qj (fJ (cs.map uh)) r=Z from h];rfl
 rw[HT.E] at WR;clear HL uL HT amg ku tL aH eu Ui aS amf WW;obtain⟨x0,x1,x2,x3⟩:=(show _/\_/\_/\_ from⟨QY.E.cell 0,QY.E.cell 1,QY.E.cell 2,QY.E.cell 3⟩);simp only[iH,iX,iI] at x0 x1 x2 x3;go_wp2_with fail;refine WR.E.mono ?_;rintro e' w3 ⟨aR,ei,en,rfl,hz⟩;obtain rfl:en=0:=hz.2 rfl;have aaU:aj wq.heap.size wq w3:=((aN _ _).alloc (aC _) _).trans (aR.mono bB);have fD:=G (QY.E.below aaU QY.E.lt);have bC:=G (nQ.E.trans (aaU.mono hwq));obtain⟨mm,hm,hg⟩:=HNQ.E.below aaU;have HM:=G hm;have Gu:=G hg;have HG:af (dX X mm nm=X):=by show _=_;rw[hg nm];exact ayY.E
 have Kc:af (oF.ok nm):=(show nm.length<=9223372036854775807 by omega);have aDB:w1.heap.size<w3.heap.size:=hm.lt;clear hm hg hz aR aaU WR QY HNQ nQ x0 x1 x2 x3;have x0:w3.cell? ⟨wo.heap.size,0,J⟩=N (au ⟨nm.toArray⟩):=fD.E.cell 0;go_wp2_with(first|(at_lookup;refine JR (M:=oF) _ iN _ _ rfl w1.heap.size mm nm rfl rfl HM.E Kc.E ?_;rw[show oF.U (dX oF.d mm nm)=ax X from congrArg ax HG.E])|(at_mapUpdate;refine VL (M:=oF) _ rfl _ _ _ rfl w1.heap.size mm nm Z rfl rfl rfl HM.E Kc.E ?_;intro w8 xS qL;have Qo:=G (bI xS qL);clear xS qL));exact⟨⟨i+1,seen++ [nm],bR,I,bC.E.trans ((show But w1.heap.size _ _ from Qo.E.2).low I I),rT.add Gu.E Qo.E.1,HCN.E⟩,bW⟩
theorem ay1(p:List di)(S:Nat->Prop)(cb i:Nat)(A:Option aK)(n c:Nat)(W:Y)(hA:tZ W S p A n c)(hS:∀q,S q->q<W.heap.size)(uK:ai W cb 54 #[O A n c])(hi:i<n)(jG:n<=1000):
  aF aa 50 #[i,aQ cb] W λe W'=>e=aI (ax (p.getD i ay).pair)/\aj W W W':=by obtain⟨g,A',n',c',rfl,_,a0,a1,_,a3,fP⟩:=hA.2.2 i hi;have x0:W.cell? ⟨cb,0,J⟩=N (O g n c):=uK.cell 0;have b3:(i:Int)<(n:Int):=I;clear hA uK fP;generalize p.getD i ay=r at*;go_enter func50,ntmps50;go_wp2_with fail;go_ret;exact⟨rfl,aN _ _⟩
theorem ay2{a b c e:ak}(h:ai w q 74 #[a,b,c,d,e])(h6:tmps.getD 5 undef=aQ q)(h7:tmps.getD 6 undef=f):
  (results f51 tmps).run aa w= .ok (bz #[aD #[a,b,c,d,e],f]) w:=by have c0:=h.cell 0;have c1:=h.cell 1;have c2:=h.cell 2;have c3:=h.cell 3;have c4:=h.cell 4;simp only[iH,iI,iX] at c0 c1 c2 c3 c4;have e6:(tmps[5]?).getD undef=aQ q:=U8;have e7:(tmps[6]?).getD undef=f:=U9;simp[results,results51,go_sem,c0,c1,c2,c3,c4,e6,e7]
theorem ay3(p:List di)(aX:jT p=Z)(S:Nat->Prop)(cb i:Nat)(A:Option aK)(n c:Nat)(B:Nat)(m:gF)(other:Int)(mb pb:Nat)(W:Y)(hA:tZ W S p A n c)(hS:∀q,S q->q<B)(uK:ai W cb 54 #[O A n c])(hi:i<n)(jG:n<=1000)(hM:ru W mb m other (O J 0 0) pb 0)(hP:eD mE W pb [])(hm:m.ok W B)(hBm:B<=mb)(QP:B<=pb):
  aF aa 51 #[aQ mb,i,aQ cb] W (Km (vK (Bh (lS m.s other) (p.getD i ay).stmts [] [] (p.getD i ay).az)) m.s.bD other i W mb pb W):=by
 have bH:=hA.1;obtain⟨g,A',n',c',rfl,hg,a0,a1,a2,a3,fP⟩:=hA.2.2 i hi;have x0:W.cell? ⟨cb,0,J⟩=N (O g n c):=uK.cell 0;have b3:(i:Int)<(n:Int):=I;have pK:=hM.lt;have Bv:=hP.lt;have qZ:=uK.lt;have BQ:g<W.heap.size:=by have:=hS g hg;omega
 have Bb:jK (p.getD i ay)=Z:=by unfold jT at aX;rw[bq] at aX;exact xD.1 aX.1 _ (SN I)
 have aT:aj W W (W.alloc (ag #[C D 0,C D 0,C D 0,C D 0,O J 0 0] 74)):=(aN _ _).alloc (aC _) _;have jQ:=G (ayD mb pb m other B (p.getD i ay) Bb _ (hM.QN aT) (hP.below aT Bv) (hm.below (aT.mono I)) hBm QP S A' n' c' (fP.keep (λq hq=>aT.block q (by have:=hS q hq;omega)) (λq hq=>hq)) hS i);have HB:af (ai (W.alloc (ag #[C D 0,C D 0,C D 0,C D 0,O J 0 0] 74)) W 74 #[C D 0,C D 0,C D 0,C D 0,O J 0 0]):=ai.new W _ _;have HO:=G (mG.of_below (mb:=mb) (pb:=pb) aT);clear hA uK hM hP hm aT fP Bb aX bH;generalize p.getD i ay=r at*;generalize vK (Bh (lS m.s other) r.stmts [] [] r.az)=fo at*;go_enter func51,ntmps51;go_wp2_with fail;refine jQ.mono ?_;rintro e' w6 ⟨⟨v0,kd,g1,g2,g3,fc,rfl,kT⟩,rW⟩;obtain⟨A0,n0,c0,rfl⟩:=Km.slice (B:=0) kT;have GN:=G kT;have qN:=G (HO.trans rW);have eY:=G (HB.gK rW I I);have zf:=eY.frozen;have z0:w6.cell? ⟨W,0,J⟩=N (C D 0):=eY.cell 0;have z1:w6.cell? ⟨W,1,J⟩=N (C D 0):=eY.cell 1;have z2:w6.cell? ⟨W,2,J⟩=N (C D 0):=eY.cell 2;have z3:w6.cell? ⟨W,3,J⟩=N (C D 0):=eY.cell 3;have z4:w6.cell? ⟨W,4,J⟩=N (O J 0 0):=eY.cell 4;clear kT rW a0 a1 a2 a3 x0 jQ HB HO;go_wp2_with fail;refine eX (ay2 (GJ eY) rfl rfl) rfl ⟨⟨_,_,_,_,_,_,rfl,?_⟩,qN.xg (GK (aN _ _) (aC _))⟩;have hr:=GN;exact al6
theorem ay4(args:Array ak)(w:Y):(callFunc 50 args).run aa w= .ok (.enter 50 args) w:=by simp[go_sem]
theorem ay5(args:Array ak)(w:Y):(callFunc 51 args).run aa w= .ok (.enter 51 args) w:=by simp[go_sem]
theorem ay6(p:List di)(aX:jT p=Z)(hp:∀r∈p,zu r)(cz:Int->Bool)(jR:mg cz [] p=Z)(S:Nat->Prop)(A:Option aK)(n c:Nat)(ls:List gF)(A2:Option aK)(n2 c2:Nat)(w:Y)(hEn:Env w)(hA:tZ w S p A n c)(hSl:∀q,S q->q<w.heap.size)(hS:Bf w w A2 n2 ls)(hl:ls.length=n2)(Gb:n2<=6)(hE:∀k,k<n2->(ls.getD k ay).s.bD=(k:Int)):
  aF aa 13 #[O A n c,O A2 n2 c2] w (XI (ls.any yY) (vL (λi s o=>vK (Bh (lS s o) (p.getD i ay).stmts [] [] (p.getD i ay).az)) (λi=>(p.getD i ay).pair) (ls.map (·.s)) n 0 []) w):=by
 have HA:=G hA;have Lm:=G hSl;have HS:=G hS;have HL:=G hl;have dI:=G aX;have hn:n<=40:=by have:=hA.1;unfold jT at aX;simp only[bq,decide_eq_true_eq] at aX;omega
 obtain⟨w1,kg⟩:∃w1:Y,w1=w.alloc (ag #[O A n c] 54):=⟨_,rfl⟩;have aB:aj w w w1:=abp;have ed:w1.heap.size=w.heap.size+1:=YC;have HX:af (ai w1 w 54 #[O A n c]):=afD;have Ci:=G (ayX p aX hp cz jR w1 (hEn.after aB) S A n c (hA.keep (λq hq=>aB.block q (hSl q hq)) (λq hq=>hq)) (λq hq=>by have:=hSl q hq;omega));have HV:af (∀W,aj w w W->aF aa 42 #[O A2 n2 c2] W λe w'=>e=aI (!ls.any yY)/\aj W W w'):=λW hW=>al2 ls w A2 n2 c2 W (hS.below hW) hl Gb hW.size hE;have aM:=G aB;clear hA hSl hS hl hE aB aX hp jR hEn;go_enter func13,ntmps13;go_upto_region 1 with fail;rw[<-kg];clear kg;have x0:w1.cell? ⟨w,0,J⟩=N (O A n c):=HX.cell 0;go_wp2_with fail;refine Ci.mono ?_;rintro e' w2 ⟨rfl,aJ⟩;have aS:=G (aU aM aJ);have eu:=G (HX.below aJ I);have fw:=aJ.size;clear aJ Ci HX aM x0;go_wp2_with fail;refine(HV w2 aS).mono ?_;rintro e' w3 ⟨rfl,aR⟩;have bC:=G (aU aS aR);have fD:=G (eu.below aR I);have fM:=aR.size;clear aR HV eu aS;cases DZ:ls.any yY with
 |true=>go_wp2_with fail;go_ret2;exact⟨bC,_,_,rfl,.inl ⟨DZ,rfl,rfl⟩⟩
 |false=>
  have x0:w3.cell? ⟨w,0,J⟩=N (O A n c):=fD.cell 0;have Ck:=G (al3 50 51 (aQ w) ay4 ay5
   (λi s o=>vK (Bh (lS s o) (p.getD i ay).stmts [] [] (p.getD i ay).az)) (λi=>(p.getD i ay).pair) A2 n2 c2 ls n w3 (by
    have h:=HS.below bC
    exact⟨h.1.more I,λm hm=>(h.2 m hm).more I⟩) I HL hn
   (λW i hi hW=>ay1 p S w i A n c W (HA.keep (λq hq=>(bC.trans (hW.mono I)).block q (Lm q hq)) (λq hq=>hq)) (λq hq=>by have:=Lm q hq;have:=hW.size;omega) (fD.below hW I) hi I)
   (λW i m other mb pb hi hm hW h1 h2 hM hP=>ay3 p dI S w i A n c w m other mb pb W (HA.keep (λq hq=>(bC.trans (hW.mono I)).block q (Lm q hq)) (λq hq=>hq)) Lm (fD.below hW I) hi I hM hP
    (((HS.2 m hm).below bC).below (hW.mono I)) I I))
  exact al7
end Go.Proofs.YtgnflmdpalmejaaGreatDoor
