/- Lemmas for the proof of WholeRules (the card is in the file ..WholeRulesCard); each lemma names its own conditions. -/
import Derived.Test.YtgnflmdpalmejaaGreatDoorA08
import Derived.Test.YtgnflmdpalmejaaGreatDoorA09
import Derived.Deep.Cut
import Derived.Deep.Fields
import Derived.Deep.Slices
import Derived.Lib.SmallJoins
import Derived.SizedLaws
import Derived.Test.YtgnflmdpalmejaaGreatDoorRows
import Derived.Test.YtgnflmdpalmejaaGreatDoorShelf3
namespace Go.Proofs.YtgnflmdpalmejaaGreatDoor
open And renaming intro->bI
open _root_.Array renaming getElem?_eq_some_iff->JQ,getElem?_toList->OH,length_toList->Mx,toArray_toList->Bl
open Bool renaming false->X,true->Z
open Go.Act renaming put->uB
open Go renaming Addr->aK,Calls->aF,DataW->wm,MemPlace->Af,TypeId->bM,Value->ak,World->Y,bodyPost_ret->eX,wp_region_held_drew->iA
open Go.DataW renaming trod->bP,trod_int->l9,trod_struct->MG
open Go.Ending renaming returned->aI
open Go.Instr renaming lookup->Jq,mapUpdate->NC
open Go.IntKind renaming i64->D
open Go.Obj renaming cells->ag
open Go.Oper renaming wp->yt
open Go.Region renaming ready->RJ,wanted->sZ
open Go.RowKit renaming Below->aj
open Go.RowKit.Below renaming heap_setCell->jm,refl->aN
open Go.Sort renaming ahead->QV
open Go.Value renaming agg->aD,bool->ax,int->C,ownBlock->Hd,pointer->aQ,slice->O,string->au,tuple->bz
open Go.World renaming alloc->pJ,cell?->M6,ownsRow_nil->ng,size_alloc->aW,size_setCell->wh
open Inhabited renaming default->ay
open List renaming cons_append->o6,flatMap_cons->Hq,getD->dO,getElem?_cons_succ->iX,getElem?_cons_zero->iI,getElem?_eq_getElem->wu,getElem?_eq_none->Ot,getElem?_map->xy,getElem?_toArray->iH,getElem_cons_succ->uE,getElem_cons_zero->uD,getElem_toArray->uC,length_append->eB,length_cons->iP,length_nil->pV,length_singleton->mf,map_append->oM,map_cons->kE,mem_append->pW,mem_cons->jZ,mem_map->qw,mem_of_find?_eq_some->RU,mem_of_getElem?->Jr,mem_singleton->lF,nil_append->wF,not_mem_nil->nJ,range->rQ,setIfInBounds_toArray->pY,set_cons_succ->oP,set_cons_zero->oh,size_toArray->AX
open List.cons renaming injEq->F6
open Nat renaming add_assoc->RH,le_refl->aC,le_trans->ja,lt_or_ge->jl,mod_lt->EF,mul_comm->L8
open Ne renaming symm->EO
open Option renaming none->J,some->N
open Go.Proofs.Tryz renaming prog->aa
open Go.RowKit Go.Lib Go.Proofs.Tryz
set_option maxRecDepth 100000
set_option maxHeartbeats 32000000
set_option linter.unusedVariables false
set_option linter.unusedSimpArgs false
variable{A:Option aK}{B S b base bf db mb n q:Nat}{P:Program}{Q:Exit->Act->Y->Prop}{R:Prop}{T e t:bM}{W W' w w':Y}{a' b' c' d d' u0 u1 u2 u3 u4 u5 u6 v v0 v1 v2 v3 v4 v6:ak}{kd y:Int}{o:Oper}{ops:Array Oper}{rest:List Oper}{xs:List ak}
section
open Go.Sort
section
variable{α:Type}[Inhabited α]{k:Nat}{enc:α->List ak}{ks:List α}{A:Option aK}{n c b g m:Nat}{T:bM}{w:Y}{d':Array α}{os:Array Obj}
theorem amY(rE:0<k)(hl:∀x,(enc x).length=k)(ho:w.ownsRow b T k (O A n c) n (ks.flatMap enc))(hn:ks.length=n)(h0:n≠0):
  ∃g,A=N ⟨g,0,J⟩/\g<w.heap.size/\HoldsK enc k w g 0 ks.toArray:=by
 obtain⟨_,hh⟩:=ho;rcases hh with⟨_,h1⟩|⟨g,cap,cur,hv,_,hb,h1,h2,h3,h4⟩;·exact absurd h1 h0
 simp only[Value.slice.injEq] at hv;obtain⟨rfl,_,rfl⟩:=hv;refine⟨g,rfl,(JQ.1 hb).1,λj hj=>?_⟩;rw[size_flatK,AX] at hj;have hjk:j/k<ks.length:=Nat.div_lt_of_lt_mul (by rw[L8];exact hj);have hjm:j%k<k:=EF _ rE;have hc:(ks.flatMap enc)[j]?=(enc (ks.getD (j/k) ay))[j%k]?:=by have:=Gl enc hl hjk hjm;rwa [Nat.div_add_mod'] at this
 rw[<-h4,List.getElem?_take_of_lt (by rw[<-hn];exact hj),OH] at hc;refine⟨?_,by simp[World.frozen?,hb]⟩;rw[Nat.zero_add];show w.cell? ⟨g,j,J⟩=N ((flatK enc k ks.toArray)[j]!);rw[get_flatK _ _ _ _ (by rw[AX];exact hj)];have e1:ks.toArray[j/k]! =ks.getD (j/k) ay:=by simp[dO]
 rw[e1];have e2:w.cell? ⟨g,j,J⟩=cur[j]?:=by simp[M6,hb]
 rw[e2,hc];have aO:j%k<(enc (ks.getD (j/k) ay)).length:=by rw[hl];exact hjm
 rw[wu aO];exact congrArg N (getElem!_pos (enc (ks.getD (j/k) ay)) (j%k) aO).symm
theorem amZ(h:PermIn 0 ks.toArray.size ks.toArray d'):d'.size=ks.length/\∀x∈d'.toList,x∈ks:=by
 obtain⟨h1,_,h3⟩:=h;rw[AX] at h1 h3;have hz:ks.length=d'.size:=by simpa using h1.symm
 have e1:d'.extract 0 ks.length=d':=by rw[hz];simp
 have e2:ks.toArray.extract 0 ks.length=ks.toArray:=aG;rw[e1,e2] at h3;exact⟨hz.symm,λx hx=>h3.mem_iff.1 hx⟩
theorem am0(rE:0<k)(hl:∀x,(enc x).length=k)(hH:HoldsK enc k w g 0 ks.toArray)(hg:g<w.heap.size)(hs:d'.size=ks.length):
  Reads (sortWorldK enc k w g 0 m d' os) (sortWorldK enc k w g 0 m d' os).heap.size k (N ⟨g,0,J⟩) ks.length (d'.toList.flatMap enc)/\w.grownBy (sortWorldK enc k w g 0 m d' os) (N g):=by
 have hz:(sortWorldK enc k w g 0 m d' os).heap.size=w.heap.size+os.size:=by show(((putRow id (QV w m) g 0 _).heap)++os).size=_;rw[Array.size_append];simp
 have hH2:HoldsK enc k (sortWorldK enc k w g 0 m d' os) g 0 d':=by refine holdsK_grow (os:=os) (hb:=?_) (h:=holdsK_putRowK (d:=d') (h0:=(show HoldsK enc k (QV w m) g 0 ks.toArray from hH)) (hs:=by simpa using hs));show g<(putRow id (QV w m) g 0 _).heap.size;simpa using hg
 refine⟨⟨by rw[LH enc hl,Mx,hs],λ_=>⟨⟨g,0,J⟩,rfl,by rw[hz];show g<_;omega,λj u hu=>?_⟩⟩,rfl,rfl,rfl,by rw[hz];omega,λi hi aY=>?_⟩
 ·have oN:j<d'.toList.length*k:=by
   have:=(List.getElem?_eq_some_iff.1 hu).1
   rwa [LH enc hl] at this
  have hjk:j/k<d'.toList.length:=Nat.div_lt_of_lt_mul (by rw[L8];exact oN)
  have hjm:j%k<k:=EF _ rE
  have hr:=Gl enc hl hjk hjm
  rw[Nat.div_add_mod'] at hr
  have hc:=(hH2.cell (i:=j/k) (c:=j%k) (by rw[Mx] at hjk;exact hjk) hjm).1
  rw[hr] at hu
  have e3:(⟨g,0,J⟩:aK).add j=⟨g,0+j/k*k+j%k,J⟩:=by
   rw[RH,Nat.div_add_mod']
   unfold Addr.add;split<;>simp_all
  rw[e3,hc]
  have e1:d'[j/k]! =d'.toList.getD (j/k) ay:=by simp[dO,Array.getElem!_eq_getD,Array.getD_eq_getD_getElem?]
  rw[e1]
  have aO:j%k<(enc (d'.toList.getD (j/k) ay)).length:=by rw[hl];exact hjm
  rw[wu aO] at hu
  rw[getElem!_pos (enc (d'.toList.getD (j/k) ay)) (j%k) aO]
  exact hu
 have:g≠i:=λe=>aY MZ;show(grow (putRowK enc k (QV w m) g 0 d') os).heap[i]?=_;rw[heap_grow_old _ _ (by show i<(putRow id (QV w m) g 0 _).heap.size;simpa using hi)];simp[putRowK,putRow,mapBlock,QV,Array.getElem?_modify,this]
end
end
section
open Go.Sort
theorem aAN{α:Type}(f:α->Int):SWO (ltOf λx y:α=>mI (f x) (f y)):=by
 have h:∀x y,ltOf (λx y:α=>mI (f x) (f y)) x y=decide (f x<f y):=λx y=>by
  show decide (mI (f x) (f y)<0)=_;unfold mI;split;·next h=>simp[h]
  next h=>split<;>simp[h]
 exact⟨λx=>by rw[h];simp,λx y z h1 h2=>by rw[h] at *;simp only[decide_eq_true_eq] at *;omega,λx y z h1 h2=>by rw[h] at *;simp only[decide_eq_false_iff_not] at *;omega⟩
theorem am1(w:Y)(a b:Obj):∃q os,(w.alloc a).alloc b=grow (w.drewN q) os:=⟨0,#[a,b],by
 have e:(w.heap.push a).push b=w.heap++#[a,b]:=by apply Array.ext';simp
 show({w with heap:=(w.heap.push a).push b}:Y)= {w with heap:=w.heap++#[a,b],drawn:=w.drawn+0};rw[e];rfl⟩
theorem aAO(x y:iM)(w:Y):aF aa 287 #[Ky x,Ky y] w λe w'=>e=aI (C D (mI x.date y.date))/\∃q os,w'=grow (w.drewN q) os:=by unfold Ky;have HG:=G (am1 w (ag #[x.cur,x.kind,x.date,x.num] 234) (ag #[y.cur,y.kind,y.date,y.num] 234));go_enter func287,ntmps287;go_wp2_with fail;refine(aeE _ _ _).mono ?_;rintro e w1 ⟨rfl,rfl⟩;go_wp2_with fail;go_ret;exact⟨rfl,HG⟩
theorem aAP(args:Array ak)(w:Y):(callFunc 287 args).run aa w= .ok (.enter 287 args) w:=by simp[go_sem]
theorem aAQ(w:Y):(isAgg 234).run aa w= .ok Z w:=by kernel_rfl
theorem aAR(w:Y):(Go.sizeOf 234).run aa w= .ok 4 w:=by kernel_rfl
theorem am2(h:R:=by simp only[jZ,nJ,or_false] at hu;rcases hu with rfl|rfl|rfl|rfl<;>rfl):R:=h
theorem aAS(x:iM):∀v∈pR x,v.oneCell'=Z:=by intro u hu;unfold pR at hu;exact am2
theorem aAT(ks:List iM)(A:Option aK)(n c b:Nat)(w:Y)(ho:w.ownsRow b 234 4 (O A n c) n (ks.flatMap pR))(hl:ks.length=n)(hn:n<=1000):
  aF aa 304 #[O A n c,.func (.func 287) #[] #[]] w λe w'=>e=aI (bz #[])/\∃ds:List iM,Reads w' w' 4 A n (ds.flatMap pR)/\w.grownBy w' (O A n c).ownBlock:=by
 by_cases h0:n=0;·subst h0;refine(AnyF.slices_SortFunc_none sortR A c _ w).mono ?_;rintro e w' ⟨rfl,rfl⟩;exact⟨rfl,[],⟨rfl,λh=>absurd h I⟩,⟨rfl,rfl,rfl,aC _,λ_ _ _=>rfl⟩⟩
 obtain⟨g,rfl,hg,hH⟩:=amY I XM ho hl h0;have hcmp:Go.Proofs.CmpLays aa 287 #[] pR 4 (λx y:iM=>mI x.date y.date) g 0 ks.toArray.size w:=λm os dk _ x y=>aAO x y _;have hcon:=AnyQ.slices_SortFunc sortR 4 aAQ aAR pR XM aAS (λx y:iM=>mI x.date y.date) (aAN λx:iM=>x.date) 287 #[] g 0 c ks.toArray w aAP hcmp hH hg (by rw[AX];omega);rw[AX,hl] at hcon;refine hcon.mono ?_;rintro e w' ⟨rfl,d',m,os,hp,_,rfl⟩;obtain⟨hs,_⟩:=amZ (ks:=ks) (by rw[AX,hl];exact hp);obtain⟨h1,h2⟩:=am0 (m:=m) (os:=os) I XM hH hg hs;rw[hl] at h1;exact⟨rfl,_,h1,h2⟩
theorem aAU(B:Nat)(A:Option aK)(m c:Nat)(rs:List iM)(p0 p1 p2 p3:Nat)(w:Y)(h:Yc w B A m c rs p0 p1 p2 p3):
  aF aa 285 #[.func (.func 305) #[] #[aQ (N ⟨p0,0,J⟩),aQ (N ⟨p1,0,J⟩),aQ (N ⟨p2,0,J⟩),aQ (N ⟨p3,0,J⟩)],.func (.func 287) #[] #[]] w λe w'=>∃(A':Option aK) (n' c':Nat) (ds:List iM),e=aI (O A' n' c')/\n'<=1000/\Reads w' w'.heap.size 4 A' n' (ds.flatMap pR)/\aj w.heap.size w w':=by have HA:=G (aAM B A m c rs p0 p1 p2 p3 w h);have HL:=G h.rt.le;clear h;go_enter func285,ntmps285;go_wp2_with fail;refine HA.E.mono ?_;rintro e w1 ⟨v,ss,rfl,bH,hr,hb⟩;obtain⟨A',c',rfl⟩:=eO hr;have fO:af (ss.length<=1000):=(show _<=_ by have:=HL.E;omega);have Ci:=G (aAT ss A' ss.length c' w.heap.size w1 hr rfl fO.E);have HF:=G (bI hb hr);clear hr hb bH HL;generalize ss.length=n' at*;go_wp2_with fail;refine Ci.E.mono ?_;rintro e w2 ⟨rfl,ds,nE,hg⟩;have wS:=G (bI nE hg);clear nE hg;go_wp2_with fail;go_ret;obtain⟨hb,hr⟩:=HF.E;exact⟨A',n',c',ds,rfl,fO.E,wS.E.1,hb.grown wS.E.2 hb.size (λr e=>lJ hr r e)⟩
theorem am3(A:Option aK)(n c:Nat)(rs:List iM)(S:ByteArray)(a b:Int)(B:Nat)(w:Y)(hr:Cv w B A n c rs)(hB:B<=w.heap.size):aF aa 286 #[O A n c,.string S,C D a,C D b] w λe w'=>∃p0 p1 p2 p3,e=aI (.func (.func 305) #[] #[aQ (N ⟨p0,0,J⟩),aQ (N ⟨p1,0,J⟩),aQ (N ⟨p2,0,J⟩),aQ (N ⟨p3,0,J⟩)])/\Yc w' B A n c rs p0 p1 p2 p3/\aj w.heap.size w w'/\w.heap.size<=p0/\w.heap.size<=p1/\w.heap.size<=p2/\w.heap.size<=p3:=by refine(aAG A n c S a b w).mono ?_;rintro e w' ⟨rfl,rfl⟩;have hb:aj w.heap.size w ((((w.alloc (ag #[O A n c] 31)).alloc (ag #[.string S] 9)).alloc (ag #[C D a] 3)).alloc (ag #[C D b] 3)):=bJ (bJ (bJ (bJ (bQ w) _) _) _) _;have k0:=(((ai.new w 31 #[O A n c]).alloc (ag #[.string S] 9)).alloc (ag #[C D a] 3)).alloc (ag #[C D b] 3);have k1:=((ai.new (w.alloc (ag #[O A n c] 31)) 9 #[.string S]).alloc (ag #[C D a] 3)).alloc (ag #[C D b] 3);have k2:=(ai.new ((w.alloc (ag #[O A n c] 31)).alloc (ag #[.string S] 9)) 3 #[C D a]).alloc (ag #[C D b] 3);have k3:=ai.new (((w.alloc (ag #[O A n c] 31)).alloc (ag #[.string S] 9)).alloc (ag #[C D a] 3)) 3 #[C D b];simp only[aW] at k1 k2 k3;refine⟨w.heap.size,w.heap.size+1,w.heap.size+1+1,w.heap.size+1+1+1,rfl,⟨k0.lt,k1.lt,k2.lt,k3.lt,k0.cell 0,⟨S,k1.cell 0⟩,⟨a,k2.cell 0⟩,⟨b,k3.cell 0⟩,hr.low hB (aC _) hb,ja hB hb.size⟩,hb,I,I,I,I⟩
def aAV(w:Y)(e:Ending)(w':Y):Prop:=∃(A:Option aK) (n c:Nat) (ds:List iM) (k:Int),e=aI (bz #[O A n c,k])/\n<=1000/\Reads w' w' 4 A n (ds.flatMap pR)/\aj w w w'
theorem aAW(g:gm)(rs:List iM)(A:Option aK)(n c:Nat)(q:List UInt8)(p:Int)(B:Nat)(w:Y)(hg:pU w B g)(hB:B<=w.heap.size)(hr:Cv w B A n c rs)(hq:q.length<=9223372036854775807):
  aF aa 239 #[aD (dx g),O A n c,au ⟨q.toArray⟩,C D p] w (aAV w):=by
 have HP:af (∀W:Y,aj w.heap.size w W->_):=λW hW=>aAw g rs A n c q p B W (hg.low hB hW) lI (hr.low hB (aC _) hW) hq;have HS:af (∀W:Y,aj w.heap.size w W->∀(a b:Int),_):=λW hW a b=>am3 A n c rs ⟨q.toArray⟩ a b B W (hr.low hB (aC _) hW) lI;have bV:=Cw g;generalize(⟨q.toArray⟩:ByteArray)=Q at*;generalize dx g=GC at*;have HX:=G (ai.new w 29 GC);have aT:=bJ (bQ w) (ag GC 29);clear hg hr hq;go_enter func239,ntmps239;go_wp2_with(refine vO iN _ rfl _ rfl _ bV HX.E ?_);refine(HP.E _ aT).mono ?_;rintro e w1 ⟨⟨a1,a2,a3,rfl⟩,aB⟩;have aM:=G (bS aB aT);clear aB aT HX;cases hq:a3==0;·go_wp2_with fail;go_ret2;exact⟨J,0,0,[],a3,rfl,I,⟨rfl,λh=>absurd h I⟩,aM.E⟩
 go_wp2_with fail;refine(HS.E _ aM.E _ _).mono ?_;rintro e w2 ⟨p0,p1,p2,p3,rfl,Ia,aJ,_,_,_,_⟩;have aS:=G (bS aJ aM.E);have HSP:=G Ia;clear Ia aJ;go_wp2_with fail;refine(aAU B A n c rs p0 p1 p2 p3 w2 HSP.E).mono ?_;rintro e w3 ⟨A',n',c',ds,rfl,Ip,nE,aR⟩;have HF:=G (bI nE (bS aR aS.E));clear nE aR;go_wp2_with fail;go_ret2;exact⟨A',n',c',ds,0,rfl,Ip,HF.E.1,HF.E.2⟩
end
theorem aAX(g:gm)(rs:List iM)(A:Option aK)(n c:Nat)(q:List UInt8)(p:Int)(B:Nat)(w:Y)(hg:pU w B g)(hB:B<=w.heap.size)(hr:Cv w B A n c rs)(hq:q.length<=9223372036854775807):
  aF aa 191 #[aD (dx g),O A n c,q,p] w (RI w):=by
 have HP:af (∀W:Y,aj w w W->_):=λW hW=>aAW g rs A n c q p B W (hg.low hB hW) lI (hr.low hB (aC _) hW) hq;have HS:af (∀W:Y,aj w w W->_):=λW hW=>azE q 2 p rs A n c B W (hr.low hB (aC _) hW) lI;have bV:=Cw g;obtain⟨j0,j1,j2,j3,j4,j6,j5⟩:=Jg g;generalize(⟨q.toArray⟩:ByteArray)=Q at*;generalize(⟨g.cur.toArray⟩:ByteArray)=CU at*;generalize dx g=GC at*;have HX:=G (ai.new w 29 GC);have aT:=bJ (bQ w) (ag GC 29);clear hg hr hq j1 j2 j3 j4 j6 j5;go_enter func191,ntmps191;go_wp2_with(refine vO iN _ rfl _ rfl _ bV HX ?_);refine(HP _ aT).mono ?_;rintro e w1 ⟨A',n',c',ds,a3,rfl,Ip,nE,aB⟩;have bO:=G (HX.below aB aG);have x0:=(bO.cell 0).trans j0;have aM:=G (bS aB aT);have HR:=G nE;clear aB aT HX nE;cases hq:a3==0;·go_wp2_with fail;have hb:=aM;go_ret2;exact RI.mk _ _
 cases hc:Q.toList==CU.toList;case true=>go_wp2_with fail;have hb:=aM;go_ret2;exact RI.mk _ _
 go_wp2_with fail;refine(HS _ aM).mono ?_;rintro e w2 ⟨⟨v,b,rfl⟩,aJ⟩;have aS:=G (bS aJ aM);have jy:=G (HR.fV (aC _) (aC _) aJ);have fw:=aJ.size;clear aJ aM HR x0 bO;cases b;case true=>go_wp2_with fail;have hb:=aS;go_ret2;exact RI.mk _ _
 by_cases hz:n'=0;·subst hz;go_wp2_with fail;have hb:=aS;go_ret2;exact RI.mk _ _
 have fG:((n':Int)==0)=X:=iO;go_wp2_with fail;go_loopw [14,46] (λsv iv wr=>∃(i:Nat) (s:Int),sv=C D s/\iv=C D i/\i<=n'/\aj w w wr/\aj w2 w2 wr) (λ_ iv _=>n'-(intOf iv).toNat);case atStart=>exact⟨0,0,rfl,rfl,I,aS,bQ _⟩
 obtain⟨i,s,rfl,rfl,hi,aH,hbs⟩:=hrel;obtain⟨wo,rfl⟩:=dz wr;have bC:=G aH;by_cases aO:i<n';·obtain⟨ad,rfl,dU,c0,c1,c2,c3⟩:=(jy.fV fw (aC _) hbs).aaV aO;generalize ds.getD i ay=x at*;have HA2:af (∀o,aj w w (wo.alloc o)/\aj w2 w2 (wo.alloc o)):=λo=>⟨bJ aH o,bJ hbs o⟩;clear aH hbs;go_wp2_with fail;exact⟨⟨i+1,_,rfl,bR,I,(HA2 _).1,(HA2 _).2⟩,bW⟩
 have hw:IntKind.i64.wrap (2*(n':Int))=2*(n':Int):=IntWalk.i64_in _ ⟨I,I⟩;clear hbs;go_wp2_with fail;have hb:=bC;go_ret2;exact RI.mk _ _
section
open Go.Shelf
attribute [local go_sem] Oper.semAt_some
def WhS(w:Y)(e:Ending)(w':Y):Prop:=∃(S:ByteArray) (a b c k:Int),e=aI (bz #[aD #[.string S,a,b,c],k])/\aj w w w'
theorem GY.new(W:Y):GY (W.alloc (ag #[au ⟨#[]⟩,C D 0,C D 0,C D 0,X] 405)) W.heap.size:=⟨_,_,_,_,_,ai.new W _ _⟩
theorem GY.below(h:GY W q)(hb:aj W W W'):GY W' q:=by obtain⟨S,a,b,c,t,k⟩:=h;exact⟨S,a,b,c,t,k.below hb k.lt⟩
theorem GY.lt(h:GY W q):q<W.heap.size:=by obtain⟨S,a,b,c,t,k⟩:=h;exact k.lt
theorem aAY(q:Nat)(B:Nat):OwnFrom B (λ(_:List iM) W=>GY W q):=λs W W' row h hg hr=>by obtain⟨S,a,b,c,t,k⟩:=h;refine⟨S,a,b,c,t,(hg.block q k.lt (λe=>?_)).trans k⟩;obtain⟨_,o,ho,hc⟩:=hr q e.symm;rw[show W.heap[q]?=_ from k] at ho;cases ho;cases hc
theorem aAZ(q:Nat)(T:bM)(cs:Array ak)(B:Nat):OwnFrom B (λ(_:List iM) W=>ai W q T cs):=λs W W' row k hg hr=>by refine(hg.block q k.lt (λe=>?_)).trans k;obtain⟨_,o,ho,hc⟩:=hr q e.symm;rw[show W.heap[q]?=_ from k] at ho;cases ho;cases hc
theorem aA0{F:Fence}{a:Act}(hw:sZ o (yielded ops a.tmps)=Z)(ty:bM)(x:Operand)(ho:o.op= .load ty x)
  (b off:Nat) (hx:a.eval x=aQ (N ⟨b,off,J⟩)) (cs:List ak) (d:TypeDesc) (hc:w.rangeAt b off cs) (hu:P.underlying ty=N d) (hd:d.isRow=Z) (hi:(P.info? ty).map (·.size)=N cs.length)
  (h:wpListIn F n P ops Q rest (a.put o.dst (aD cs.toArray)) w):wpListIn F n P ops Q (o::rest) a w:=BigFrame.wpListIn_want hw λK hK=>by refine⟨λf hf=>by simp[Oper.about,ho] at hf,?_⟩;rw[Oper.semAt_eq _ _ _ (by simp[ho])];unfold execOp;simp only[ho,hx,Instr.loadAt,Instr.sureAddr,Sem.run_bind,Sem.run_pure,Result.andThen_ok,run_loadVar_mid w b off ty cs d hc hu hd hi];exact hK _ _ h
theorem aa4{a b c:ak}(h:ai W q T #[a,b,c,d]):ai ((((W.setCell ⟨q,0,J⟩ a').setCell ⟨q,1,J⟩ b').setCell ⟨q,2,J⟩ c').setCell ⟨q,3,J⟩ d') q T #[a',b',c',d']:=by have:=(((h.bL 0 a').bL 1 b').bL 2 c').bL 3 d';simpa using this
theorem aa5(h:aj n w W)(hq:n<=q):aj n w ((((W.setCell ⟨q,0,J⟩ a').setCell ⟨q,1,J⟩ b').setCell ⟨q,2,J⟩ c').setCell ⟨q,3,J⟩ d'):=(((h.setCell (p:=⟨q,0,J⟩) hq _).setCell (p:=⟨q,1,J⟩) hq _).setCell (p:=⟨q,2,J⟩) hq _).setCell (p:=⟨q,3,J⟩) hq _
theorem am4{cs:Array ak}{ds:Option (List Deferred)}(h:ai W q T cs)(hD:W.heap[bf]?=N (.deferred ds)):bf≠q:=by rintro rfl;rw[show W.heap[bf]?=_ from h] at hD;cases hD
theorem am5{cs:Array ak}(h:ai W q T cs){o:Obj}(hD:bf≠q):ai (W.putObj bf o) q T cs:=(World.putObj_heap_other (EO hD)).trans h
theorem aa6{o:Option Obj}(hD:bf≠q)(h:W.heap[bf]?=o):((((W.setCell ⟨q,0,J⟩ a').setCell ⟨q,1,J⟩ b').setCell ⟨q,2,J⟩ c').setCell ⟨q,3,J⟩ d').heap[bf]?=o:=by rw[jm _ ⟨q,3,J⟩ _ _ hD,jm _ ⟨q,2,J⟩ _ _ hD,jm _ ⟨q,1,J⟩ _ _ hD,jm _ ⟨q,0,J⟩ _ _ hD,h]
theorem OJ{a b c:ak}(h:ai W q T #[a,b,c,d]):W.cell? ⟨q,0,J⟩=N a/\W.cell? ⟨q,1,J⟩=N b/\W.cell? ⟨q,2,J⟩=N c/\W.cell? ⟨q,3,J⟩=N d:=⟨h.cell 0,h.cell 1,h.cell 2,h.cell 3⟩
theorem aA1(g:gm)(rs:List iM)(A:Option aK)(n c:Nat)(q:List UInt8)(d:Int)(B:Nat)(w:Y)(hg:pU w B g)(hB:B<=w.heap.size)(hr:Cv w B A n c rs)(hq:q.length<=9223372036854775807):
  aF aa 241 #[aD (dx g),O A n c,au ⟨q.toArray⟩,C D d] w (WhS w):=by
 have HP:af (∀W:Y,aj w.heap.size w W->∀ad:aK,ad.block<W.heap.size->W.cell? ad=N (au ⟨q.toArray⟩)->_):=λW hW ad mK hc=>aAB g rs A n c d ad q 1 B W (hg.low hB hW) lI (hr.low hB (aC _) hW) mK hc hq;have HS:af (∀W:Y,aj w.heap.size w W->∀(a b:Int),_):=λW hW a b=>am3 A n c rs ⟨q.toArray⟩ a b B W (hr.low hB (aC _) hW) lI;have HA:af (0<n->∀ad,A=N ad->ad.block<w.heap.size):=λh0 ad h=>by obtain⟨Hf,e,hb,_⟩:=hr.rd.2 h0;rw[h] at e;cases e;omega
 have bV:=Cw g;obtain⟨j0,j1,j2,j3,j4,j6,j5⟩:=Jg g;generalize(⟨q.toArray⟩:ByteArray)=Q at*;generalize(⟨g.cur.toArray⟩:ByteArray)=CU at*;generalize dx g=GC at*;have HX:=G ((ai.new w 29 GC).alloc (ag #[au ⟨#[]⟩,C D 0,C D 0,C D 0] 234));have HR:=G (ai.new (w.alloc (ag GC 29)) 234 #[au ⟨#[]⟩,C D 0,C D 0,C D 0]);have aT:=bJ (bJ (bQ w) (ag GC 29)) (ag #[au ⟨#[]⟩,C D 0,C D 0,C D 0] 234);rw[aW] at HR;clear hg hr hq j1 j2 j3 j4 j6 j5;refine(callsIn_wide (n:=5)).1 ?_;refine callsIn_of_wp_marks func241 rfl trivial ?_ rfl;simp only[ntmps241,AX,iP,pV,Nat.reduceAdd,Nat.reduceSub,Array.replicate_succ,Array.replicate_zero,List.push_toArray,List.append_toArray,wF,o6];gi_wp2_with (refine aA0 iN 29 _ rfl w.heap.size 0 rfl GC.toList _ (λj u hu=>by rw[Nat.zero_add,HX.E.cell,<-OH];exact hu) underlying29 rfl (by rw[JA,Mx,bV]) ?_;rw[Bl]);have aB:=bJ aT (ag #[.string Q] 9);have bO:=G (HX.E.alloc (ag #[.string Q] 9));have ku:=G (HR.E.alloc (ag #[.string Q] 9));have hq:=(ai.new ((w.alloc (ag GC 29)).alloc (ag #[au ⟨#[]⟩,C D 0,C D 0,C D 0] 234)) 9 #[.string Q]);simp only[aW] at hq;refine⟨trivial,(callsIn_wide.2 (HP.E _ aB ⟨w.heap.size+1+1,0,J⟩ hq.lt (hq.cell 0))).mono ?_⟩;rintro e w1 ⟨⟨k,rfl⟩,aJ⟩;have aM:=G (bS aJ aB);have hX1:=bO.E.below aJ bO.E.lt;have Yd:=ku.E.below aJ ku.E.lt;have jy:=G Yd;have hlr:=Yd.lt;have x0:=(hX1.cell 0).trans j0;obtain⟨z0,z1,z2,z3⟩:=OJ Yd;have rG:=Yd.frozen;clear aT aB aJ HX HR bO ku hq hX1 Yd;cases hk:k==0;·gi_wp2_with fail;have hy:=aa4 (a':=au ⟨#[]⟩) (b':=C D 0) (c':=C D 0) (d':=C D 0) jy.E;obtain⟨y0,y1,y2,y3⟩:=OJ hy;refine⟨bz #[aD #[au ⟨#[]⟩,C D 0,C D 0,C D 0],C D k],?_,_,_,_,_,_,rfl,aa5 aM.E I⟩;simp[results,results241,go_sem,y0,y1,y2,y3]
 cases hc:Q.toList==CU.toList;case true=>gi_wp2_with fail;have hy:=aa4 (a':= .string Q) (b':=C D 1) (c':=C D d) (d':=C D 1000000) jy.E;obtain⟨y0,y1,y2,y3⟩:=OJ hy;refine⟨bz #[aD #[.string Q,C D 1,C D d,C D 1000000],C D 0],?_,_,_,_,_,_,rfl,aa5 aM.E I⟩;simp[results,results241,go_sem,y0,y1,y2,y3]
 have fq:=bJ aM.E (ag #[au ⟨#[]⟩,C D 0,C D 0,C D 0,ax X] 405);gi_wp2_with fail;refine⟨trivial,(callsIn_wide.2 (HS.E _ fq _ _)).mono ?_⟩;rintro e w3 ⟨p0,p1,p2,p3,rfl,Ia,aR,g0,g1,g2,g3⟩;simp only[aW] at g0 g1 g2 g3;have EE:=G ((GY.new w1).below aR);have vE:=G ((jy.E.alloc (ag #[au ⟨#[]⟩,C D 0,C D 0,C D 0,ax X] 405)).below aR bB);have bC:=G (bS aR fq);have HSP:=G (amW 4 I (N w1.heap.size) B A n c rs p0 p1 p2 p3 w3 Ia yj yj yj yj (λh0 ad e=>by intro e2;injection e2;have:=HA.E h0 ad e;have:=aM.E.size;omega));have fM:=aR.size;simp only[aW] at fM;have hsw:=aM.E.size;clear fq Ia aR x0 z0 z1 z2 z3 rG;gi_wp2_with fail;refine wpIn_rangeFunc_ownH (encs:=λx:iM=>#[Ky x]) rfl I (gf:=305) (lb:=#[aQ (N ⟨p0,0,J⟩),aQ (N ⟨p1,0,J⟩),aQ (N ⟨p2,0,J⟩),aQ (N ⟨p3,0,J⟩)]) rfl trivial (enters_of func305 dh rfl)
  HSP.E (λh k=>kS.trans h k) (λW l o o' hl _ _ _=>kS.putObj W l o' I) (aN _ _) (λ_=>rfl)
  (λpre W=>w3.heap.size<=W.heap.size/\GY W w1.heap.size/\ai W (w.heap.size+1) 234 #[au ⟨#[]⟩,C D 0,C D 0,C D 0]/\aj w.heap.size w W) (λ_ _ _=>False)
  (OwnFrom.and (λs jV aDF row h hg _=>ja h hg.size) (OwnFrom.and (aAY _ _) (OwnFrom.and (aAZ _ _ _ _) (ownFrom_below (aC _) I))))
  (λc s W W' row h=>h.elim) ⟨aC _,EE.E,vE.E,bC.E⟩
  (λx a' W=>∃Bx,Bx≠w1.heap.size/\W.heap[Bx]?=N (ag #[au ⟨x.cur.toArray⟩,C D x.kind,C D x.date,C D x.num] 234 (0,0))/\a'= {tmps:=#[aD GC,O A n c,.string Q,C D d,aQ (N ⟨w.heap.size,0,J⟩),undef,undef,undef,aQ (N ⟨w.heap.size+1,0,J⟩),C D 0,C D k,aQ (N ⟨w1.heap.size,0,J⟩),aQ (N ⟨Bx,0,J⟩),aD GC,O A n c,C D d,.string Q,O (N ⟨w.heap.size+1+1,0,J⟩) 1 1,C D k,C D k,ax X,undef,undef,.string Q,aQ (N ⟨w.heap.size,0,J⟩),.string CU,ax X,undef,undef,undef,O A n c,.string Q,C D d,C D (wrap64 (d-40)),C D d,(.func (.func 305) #[] #[aQ (N ⟨p0,0,J⟩),aQ (N ⟨p1,0,J⟩),aQ (N ⟨p2,0,J⟩),aQ (N ⟨p3,0,J⟩)]),aD #[au ⟨x.cur.toArray⟩,C D x.kind,C D x.date,C D x.num],undef,undef,undef,undef,undef,undef,undef,undef],defers:= []})
  (λx a' s W W' row h hg hr=>by
   obtain⟨Bx,h2,h3,h4⟩:=h
   refine⟨Bx,h2,(hg.block Bx (JQ.1 h3).1 (λe=>?_)).trans h3,h4⟩
   obtain⟨_,o,ho,hc⟩:=hr Bx e.symm
   rw[h3] at ho;cases ho;cases hc) ?assign ?body ?done ?stop
 case assign=>rintro l _ x W K ⟨hz,hl,hr,hB⟩ hK;have hvl:=hl.lt;have hk:=World.alloc_heap_new W (ag #[au ⟨x.cur.toArray⟩,C D x.kind,C D x.date,C D x.num] 234);have iV:=KeepsOthers.alloc W (ag #[au ⟨x.cur.toArray⟩,C D x.kind,C D x.date,C D x.num] 234);have qW:aj W.heap.size W (W.alloc (ag #[au ⟨x.cur.toArray⟩,C D x.kind,C D x.date,C D x.num] 234)):=(aN _ _).alloc (aC _) _;have hKF:=G (hK _ _ (iV.from _) (kS.of_below qW hz) ⟨bB,hl.below qW,hr.alloc _,hB.alloc hB.size _⟩ ⟨W.heap.size,I,hk,rfl⟩);clear hK hk iV qW hB hl hr;unfold Ky;gi_wp2_with fail;exact hKF.E
 case body=>rintro l pre x a' W _ ⟨r,hr⟩ ⟨hz,uM,xW,hB⟩ ⟨Bx,_,Be,rfl⟩ _;have dU:ai W Bx 234 #[au ⟨x.cur.toArray⟩,C D x.kind,C D x.date,C D x.num]:=Be;obtain⟨c0,c1,c2,c3⟩:=OJ dU;have HSE:=G (aAD w1.heap.size ⟨x.cur.toArray⟩ x.kind x.date x.num W uM);have HF:=G (bI uM (bI xW hB));clear Be dU hr hB uM xW;gi_wp2_with fail;refine⟨trivial,(callsIn_wide.2 HSE.E).mono ?_⟩;rintro e w4 ⟨rfl,Iy,yz⟩;obtain⟨_,xW,hB⟩:=HF.E;gi_wp2_with fail;exact⟨KeepsFrom.of_grownBy yz (λj e=>by cases e;omega),kS.amU yz hz,ja hz yz.size,Iy,(yz.block _ xW.lt yj).trans xW,hB.grown yz hB.size (λr e=>by cases e;omega)⟩
 case done=>
  rintro bf ss W hD _ ⟨_,uM,xW,hB⟩ hK;obtain⟨S0,a0,b0,c0,t,hb⟩:=uM;have x0:W.cell? ⟨w1.heap.size,0,J⟩=N (.string S0):=hb.cell 0;have x1:W.cell? ⟨w1.heap.size,1,J⟩=N (C D a0):=hb.cell 1;have x2:W.cell? ⟨w1.heap.size,2,J⟩=N (C D b0):=hb.cell 2;have x3:W.cell? ⟨w1.heap.size,3,J⟩=N (C D c0):=hb.cell 3;have x4:W.cell? ⟨w1.heap.size,4,J⟩=N (ax t):=hb.cell 4;obtain⟨z0,z1,z2,z3⟩:=OJ xW;have rG:=xW.frozen;have HF:=G (bI xW (bI hB hD));clear hb xW hB;cases t;·gi_wp2_with fail;obtain⟨xW,hB,_⟩:=HF.E;have aY:=am4 xW hK;have hy:=aa4 (a':=au ⟨#[]⟩) (b':=C D 0) (c':=C D 0) (d':=C D 0) xW;obtain⟨y0,y1,y2,y3⟩:=OJ (am5 hy (o:= .deferred J) aY);refine⟨aG,.inl ⟨_,_,rfl,run_takeDeferred (aa6 aY hK),?_⟩⟩;refine⟨bz #[aD #[au ⟨#[]⟩,C D 0,C D 0,C D 0],C D 13],?_,_,_,_,_,_,rfl,(aa5 hB I).trans (belowK_b (w:=w) (aC _) _ bf _ _ I (aa6 aY hK) rfl rfl)⟩;simp[results,results241,go_sem,y0,y1,y2,y3]
  gi_wp2_with fail;obtain⟨xW,hB,_⟩:=HF.E;have aY:=am4 xW hK;have hy:=aa4 (a':=au S0) (b':=C D a0) (c':=C D b0) (d':=C D c0) xW;obtain⟨y0,y1,y2,y3⟩:=OJ (am5 hy (o:= .deferred J) aY);refine⟨aG,.inl ⟨_,_,rfl,run_takeDeferred (aa6 aY hK),?_⟩⟩;refine⟨bz #[aD #[au S0,C D a0,C D b0,C D c0],C D 0],?_,_,_,_,_,_,rfl,(aa5 hB I).trans (belowK_b (w:=w) (aC _) _ bf _ _ I (aa6 aY hK) rfl rfl)⟩;simp[results,results241,go_sem,y0,y1,y2,y3]
 rintro bf c _ W _ _ h _;exact h.elim
end
theorem aA2(g:gm)(rs:List iM)(A:Option aK)(n c:Nat)(q:List UInt8)(d:Int)(B:Nat)(w:Y)(hg:pU w B g)(hB:B<=w.heap.size)(hr:Cv w B A n c rs)(hq:q.length<=9223372036854775807):
  aF aa 192 #[aD (dx g),O A n c,q,d] w (RI w):=by have HP:af (∀W:Y,aj w w W->_):=λW hW=>aA1 g rs A n c q d B W (hg.low hB hW) lI (hr.low hB (aC _) hW) hq;have bV:=Cw g;generalize(⟨q.toArray⟩:ByteArray)=Q at*;generalize dx g=GC at*;have HX:=G (ai.new w 29 GC);have aT:=bJ (bQ w) (ag GC 29);clear hg hr hq;go_enter func192,ntmps192;go_wp2_with(refine vO iN _ rfl _ rfl _ bV HX ?_);refine(HP _ aT).mono ?_;rintro e w1 ⟨S,a,b,c,k,rfl,aB⟩;have hb:=bJ (bS aB aT) (ag #[.string S,a,b,c] 234);clear aB aT HX;go_wp2_with fail;go_ret2;exact RI.mk _ _ hb
structure jY where
 g:gm
 Ax:Option aK
 nx:Nat
 cx:Nat
 xs:List gV
 Ar:Option aK
 nr:Nat
 cr:Nat
 rs:List iM
 v3:ak
 v4:ak
 v5:ak
 v6:ak
def mJ(b:jY):Array ak:=#[b.g.cur,b.g.year,b.g.month,b.g.Cb,O b.g.Ac b.g.nc b.g.cc,b.g.dL.c0,b.g.dL.c1,b.g.dL.c2,b.g.dL.c3,b.g.dL.c4,b.g.dL.c5,b.g.dL.c6,b.g.dL.c7,b.g.dL.c8,b.g.dL.c9,b.g.dL.c10,b.g.dL.c11,b.g.dL.c12,b.g.dL.c13,b.g.dL.c14,O b.g.Ae b.g.ne b.g.ce,O b.Ax b.nx b.cx,O b.Ar b.nr b.cr,b.v3,b.v4,b.v5,b.v6]
structure uq where
 bD:Nat
 p:Int
 last:Int
 mv:ak
 cur:List UInt8
 cv:Bool
def rz(b:jY)(d:uq):Array ak:=#[au ⟨b.g.cur.toArray⟩,C D b.g.year,C D b.g.month,C D b.g.Cb,O b.g.Ac b.g.nc b.g.cc,C D b.g.dL.c0,C D b.g.dL.c1,C D b.g.dL.c2,C D b.g.dL.c3,C D b.g.dL.c4,C D b.g.dL.c5,C D b.g.dL.c6,C D b.g.dL.c7,C D b.g.dL.c8,C D b.g.dL.c9,C D b.g.dL.c10,C D b.g.dL.c11,C D b.g.dL.c12,C D b.g.dL.c13,C D b.g.dL.c14,O b.g.Ae b.g.ne b.g.ce,O b.Ax b.nx b.cx,O b.Ar b.nr b.cr,b.v3,b.v4,b.v5,b.v6,C D d.bD,C D d.p,C D d.last,d.mv,au ⟨d.cur.toArray⟩,ax d.cv]
theorem aeF(b:jY):(mJ b).size=27:=rfl
theorem aA3(b:jY)(d:uq)(j:Nat)(u:ak)(h:(mJ b).toList[j]?=N u):(rz b d).toList[j]?=N u:=by have e:(rz b d).toList=(mJ b).toList++ [C D d.bD,C D d.p,C D d.last,d.mv,au ⟨d.cur.toArray⟩,ax d.cv]:=rfl;rw[e,List.getElem?_append_left (List.getElem?_eq_some_iff.1 h).1];exact h
theorem am6(b:jY)(j:Nat)(u:ak)(h:(dx b.g).toList[j]?=N u):(mJ b).toList[j]?=N u:=by have e:(mJ b).toList=(dx b.g).toList++ [O b.Ax b.nx b.cx,O b.Ar b.nr b.cr,b.v3,b.v4,b.v5,b.v6]:=rfl;rw[e,List.getElem?_append_left (List.getElem?_eq_some_iff.1 h).1];exact h
theorem aa7(b:jY):(mJ b)[0]?=N (au ⟨b.g.cur.toArray⟩)/\(mJ b)[1]?=N (C D b.g.year)/\(mJ b)[2]?=N (C D b.g.month)/\(mJ b)[3]?=N (C D b.g.Cb)/\(mJ b)[20]?=N (O b.g.Ae b.g.ne b.g.ce)/\(mJ b)[21]?=N (O b.Ax b.nx b.cx)/\(mJ b)[22]?=N (O b.Ar b.nr b.cr):=⟨rfl,rfl,rfl,rfl,rfl,rfl,rfl⟩
theorem am7(b:jY)(d:uq):(rz b d)[0]?=N (au ⟨b.g.cur.toArray⟩)/\(rz b d)[1]?=N (C D b.g.year)/\(rz b d)[2]?=N (C D b.g.month)/\(rz b d)[3]?=N (C D b.g.Cb)/\(rz b d)[4]?=N (O b.g.Ac b.g.nc b.g.cc)/\(rz b d)[20]?=N (O b.g.Ae b.g.ne b.g.ce)/\(rz b d)[22]?=N (O b.Ar b.nr b.cr)/\
  (rz b d)[27]?=N (C D d.bD)/\(rz b d)[28]?=N (C D d.p)/\(rz b d)[29]?=N (C D d.last)/\(rz b d)[30]?=N d.mv/\(rz b d)[31]?=N (au ⟨d.cur.toArray⟩)/\(rz b d)[32]?=N (ax d.cv):=⟨rfl,rfl,rfl,rfl,rfl,rfl,rfl,rfl,rfl,rfl,rfl,rfl,rfl⟩
theorem aeG{b:jY}{d:uq}(h:ai W db T (rz b d)):W.rangeAt db 0 (dx b.g).toList:=λj u hu=>by rw[Nat.zero_add,h.cell,<-OH];exact aA3 b d j u (am6 b j u hu)
theorem aeH{b:jY}(h:ai W db T (mJ b)):W.rangeAt db 0 (dx b.g).toList:=λj u hu=>by rw[Nat.zero_add,h.cell,<-OH];exact am6 b j u hu
structure Cy(W:Y)(B:Nat)(b:jY):Prop where
 gr:pU W B b.g
 ne:b.g.ne<=1000
 rt:Cv W B b.Ar b.nr b.cr b.rs
 en:XR W B b.Ax b.nx b.cx b.xs
 nx:b.nx<=900
 dt:∀x∈b.xs,fU x.date
theorem Cy.keep{b:jY}(h:Cy W B b)(hk:∀p:aK,p.block<B->W'.cell? p=W.cell? p):Cy W' B b:=⟨⟨h.gr.mH.keep hk,h.gr.nc,h.gr.en,h.gr.el⟩,h.ne,⟨h.rt.rd.keep hk,h.rt.le,h.rt.cap,h.rt.ok⟩,⟨h.en.rd.keep hk,h.en.le,h.en.cap,λx hx=>⟨(h.en.ok x hx).rd.keep hk,(h.en.ok x hx).le,(h.en.ok x hx).cap,(h.en.ok x hx).tx,(h.en.ok x hx).id,(h.en.ok x hx).of⟩⟩,h.nx,h.dt⟩
theorem Cy.low{b:jY}(h:Cy W B b)(hB:B<=n)(hb:aj n W W'):Cy W' B b:=h.keep λp hp=>hb.cell I
def PFo(v:ak):Prop:=∃a k:Int,v=aD #[a,k]
structure Dk(W:Y)(B bf db mb:Nat)(b:jY)(d:uq):Prop where
 blk:ai W db 93 (rz b d)
 mv:d.mv= .map (N mb)
 BD:B<=bf
 dD:bf<=db
 mD:bf<=mb
 nd:mb≠db
 bk:Cy W B b
 mp:gG Uj PFo W mb
 en:d.bD<b.g.ne
 la:fU d.last
 cu:d.cur.length<=9223372036854775807
theorem Dk.lt{b:jY}{d:uq}(h:Dk W B bf db mb b d):bf<W.heap.size:=by have:=h.blk.lt;have:=h.dD;omega
theorem Dk.below{b:jY}{d:uq}(h:Dk W B bf db mb b d)(hb:aj W W W'):Dk W' B bf db mb b d:=⟨h.blk.below hb h.blk.lt,h.mv,h.BD,h.dD,h.mD,h.nd,h.bk.low (by have:=h.lt;have:=h.BD;omega) hb,h.mp.below hb h.mp.lt,h.en,h.la,h.cu⟩
theorem Dk.map{b:jY}{d:uq}(h:Dk W B bf db mb b d)(hg:W.grownBy W' (N mb))(hm:gG Uj PFo W' mb):Dk W' B bf db mb b d:=⟨(hg.block db h.blk.lt (by intro e;cases e;exact h.nd rfl)).trans h.blk,h.mv,h.BD,h.dD,h.mD,h.nd,h.bk.low h.BD (X9 hg h.mD (by have:=h.lt;omega)),hm,h.en,h.la,h.cu⟩
theorem Dk.far{b:jY}{d:uq}(h:Dk W B bf db mb b d)(q:Nat)(hq:bf<=q/\q≠db/\q≠mb)(j:Nat)(u:ak):Dk (W.setCell ⟨q,j,J⟩ u) B bf db mb b d:=⟨h.blk.far (p:=⟨q,j,J⟩) (EO hq.2.1) u,h.mv,h.BD,h.dD,h.mD,h.nd,h.bk.low h.BD ((aN bf W).setCell (p:=⟨q,j,J⟩) hq.1 u),h.mp.kept (jm _ ⟨q,j,J⟩ _ _ (EO hq.2.2)),h.en,h.la,h.cu⟩
theorem Dk.drew{b:jY}{d:uq}(h:Dk W B bf db mb b d):Dk W.drew B bf db mb b d:=h.below (kD (bQ _))
theorem Kz{b:jY}{d:uq}(h:Dk W B bf db mb b d):W.cell? ⟨db,0,J⟩=N (au ⟨b.g.cur.toArray⟩)/\W.cell? ⟨db,1,J⟩=N (C D b.g.year)/\W.cell? ⟨db,2,J⟩=N (C D b.g.month)/\W.cell? ⟨db,3,J⟩=N (C D b.g.Cb)/\W.cell? ⟨db,4,J⟩=N (O b.g.Ac b.g.nc b.g.cc)/\W.cell? ⟨db,20,J⟩=N (O b.g.Ae b.g.ne b.g.ce)/\W.cell? ⟨db,22,J⟩=N (O b.Ar b.nr b.cr)/\
  W.cell? ⟨db,27,J⟩=N (C D d.bD)/\W.cell? ⟨db,28,J⟩=N (C D d.p)/\W.cell? ⟨db,29,J⟩=N (C D d.last)/\W.cell? ⟨db,30,J⟩=N (.map (N mb))/\W.cell? ⟨db,31,J⟩=N (au ⟨d.cur.toArray⟩)/\W.cell? ⟨db,32,J⟩=N (ax d.cv):=by obtain⟨j0,j1,j2,j3,j4,j5,j6,j7,j8,j9,j10,j11,j12⟩:=am7 b d;rw[h.mv] at j10;exact⟨(h.blk.cell 0).trans j0,(h.blk.cell 1).trans j1,(h.blk.cell 2).trans j2,(h.blk.cell 3).trans j3,(h.blk.cell 4).trans j4,(h.blk.cell 20).trans j5,(h.blk.cell 22).trans j6,(h.blk.cell 27).trans j7,(h.blk.cell 28).trans j8,(h.blk.cell 29).trans j9,(h.blk.cell 30).trans j10,(h.blk.cell 31).trans j11,(h.blk.cell 32).trans j12⟩
theorem GZ{a b:ak}(h:ai W q T #[a,b]):W.cell? ⟨q,0,J⟩=N a/\W.cell? ⟨q,1,J⟩=N b:=⟨h.cell 0,h.cell 1⟩
theorem Ra{b:jY}{d:uq}(h:Dk W B bf db mb b d):B<=W.heap.size:=by have:=h.lt;have:=h.BD;omega
theorem xZ{r:Option Nat}(h:aj w w W):w.grownBy W r:=Vb h r
def Ye(b:jY)(d:uq)(db kb:Nat)(basis kd:Int)(y:Y):Prop:=y.rangeAt db 0 (dx b.g).toList/\y.cell? ⟨db,22,J⟩=N (O b.Ar b.nr b.cr)/\y.cell? ⟨db,31,J⟩=N (au ⟨d.cur.toArray⟩)/\y.cell? ⟨kb,1,J⟩=N (C D kd)
theorem Yf{kb:Nat}{b:jY}{d:uq}{basis:Int}(h:Dk W B bf db mb b d)(hk:ai W kb 314 #[basis,kd]):Ye b d db kb basis kd W:=by obtain⟨_,_,_,_,_,_,zP,_,_,_,_,uX,_⟩:=Kz h;exact⟨aeG h.blk,zP,uX,(GZ hk).2⟩
theorem aeI{kb fb:Nat}{b:jY}{d:uq}{basis:Int}(h:Ye b d db kb basis kd W)(h1:fb≠db)(h2:fb≠kb)(j:Nat)(u:ak):Ye b d db kb basis kd (W.setCell ⟨fb,j,J⟩ u):=by
 obtain⟨a1,a2,a3,a4⟩:=h;have e1:∀i,(W.setCell ⟨fb,j,J⟩ u).cell? ⟨db,i,J⟩=W.cell? ⟨db,i,J⟩:=λi=>by simp only[M6];rw[jm _ ⟨fb,j,J⟩ _ db (EO h1)]
 have e2:∀i,(W.setCell ⟨fb,j,J⟩ u).cell? ⟨kb,i,J⟩=W.cell? ⟨kb,i,J⟩:=λi=>by simp only[M6];rw[jm _ ⟨fb,j,J⟩ _ kb (EO h2)]
 exact⟨λi v hv=>(e1 _).trans (a1 i v hv),(e1 22).trans a2,(e1 31).trans a3,(e2 1).trans a4⟩
theorem am8{P:ak->Prop}{x:Int}(h:gG Uj P w b)(hx:fU x)(hy:fU y):∃v t,(Jq 91 (.map (N b)) (aD #[C D x,C D y]) Z).run aa w= .ok (bz #[v,ax t]) w/\(t=Z->P v)/\(t=X->v=aD #[C D 0,C D 0]):=ams h ⟨x,y,rfl,hx,hy⟩
theorem aA4{P:ak->Prop}{x:Int}{u:ak}(h:gG Uj P w b)(hx:fU x)(hy:fU y)(hu:P u):∃w1,(NC 91 (.map (N b)) (aD #[x,y]) u).run aa w= .ok () w1/\w.grownBy w1 (N b)/\gG Uj P w1 b:=aeu h ⟨x,y,rfl,hx,hy⟩ hu
theorem MC{r:Option Nat}(h:w.grownBy W r)(hq:w.heap.size<=q)(j:Nat)(u:ak):w.grownBy (W.setCell ⟨q,j,J⟩ u) r:=⟨h.os,h.tape,h.output,by rw[wh];exact h.size,λi hi hr=>(jm _ ⟨q,j,J⟩ _ _ (show i≠q by omega)).trans (h.block i hi hr)⟩
theorem am9(h:R:=by
  rintro e w2 ⟨⟨a2,k2,rfl⟩,aJ⟩;have HD4:=G (ry.E.drew.below aJ);have IJ:=G (zm.E.drew.below aJ zm.E.drew.lt);have HF4:=G (HF3.E.drew.below aJ HF3.E.drew.lt);have HG4:=G ((DN.E.trans (xZ (kD (bQ _)))).trans (xZ (r:=N mb) aJ));dsimp only
  refine bF hK (Yf HD4.E IJ.E) (λaa8=>?_);clear hK K bg aJ;refine aA 17 ?_;refine aA 18 ?_;refine aA 19 ?_;refine aA 20 ?_;obtain⟨f0,f1⟩:=GZ HF4.E;have ff:=HF4.E.frozen;have JZ:af (ai (w2.setCell ⟨fb,0,J⟩ (C D a2)) fb 316 #[C D a2,C D k]):=(show ai _ _ _ _ by simpa using HF4.E.bL 0 (C D a2));refine bK 21 (λK hK=>?_);go_simp;refine bF hK (aeI (Yf HD4.E IJ.E) n1 n3 _ _) (λOG=>?_);clear hK K f0 f1 ff;refine aA 22 ?_;obtain⟨f0,f1⟩:=GZ JZ.E;have ff:=JZ.E.frozen;refine bK 23 (λK hK=>?_);go_simp;refine bF hK (aeI (aeI (Yf HD4.E IJ.E) n1 n3 _ _) n1 n3 _ _) (λ_=>?_);clear hK K f0 f1 ff;refine gI ?_;clear Uz;go_wp2_with fail;go_meet;exact⟨a2,k2,by simpa using JZ.E.bL 1 (C D k2),(IJ.E.far (p:=⟨fb,0,J⟩) (EO n3) _).far (p:=⟨fb,1,J⟩) (EO n3) _,(HD4.E.far fb ⟨I,n1,n2⟩ 0 _).far fb ⟨I,n1,n2⟩ 1 _,MC (MC HG4.E n4 0 _) n4 1 _⟩):R:=h
theorem aA5(b:jY)(d:uq)(B bf db mb:Nat)(basis date:Int)(w:Y)(h:Dk w B bf db mb b d)(jB:fU basis)(Kk:fU date):
  aF aa 127 #[aQ (N ⟨db,0,J⟩),C D basis,C D date] w λe w'=>(∃a k:Int,e=aI (bz #[C D a,C D k]))/\Dk w' B bf db mb b d/\w.grownBy w' (N mb):=by
 have DD:=G h;have nN:=G jB;have Gi:=G Kk;have CV:=h.blk.lt;have hDw:=h.lt;have hmw:=h.mp.lt;obtain⟨x0,x1,x2,x3,x4,nX,zP,vU,EU,DF,uW,uX,vV⟩:=Kz h;clear h jB Kk;have hkz:=bJ (bQ w) (ag #[C D basis,C D date] 314);have HKZ:=G hkz;have QU:=G (ai.new w 314 #[C D basis,C D date]);clear hkz;go_enter func127,ntmps127;cases hcv:d.cv;·rw[hcv] at vV;go_wp2_with fail;go_ret2;exact⟨⟨_,_,rfl⟩,DD.E,xZ (bQ _)⟩
 rw[hcv] at vV;go_upto_block 0 with fail;go_cut [] (λwx=>∃kd:Int,fU kd/\ai wx w.heap.size 314 #[C D basis,C D kd]/\Dk wx B bf db mb b d/\w.grownBy wx (N mb)/\w.heap.size<wx.heap.size);case first=>
  have rX:=G (DD.E.below HKZ.E);cases q1:basis==1;case true=>go_wp2_with fail;go_meet;exact⟨d.last,DD.E.la,ai.new _ _ _,DD.E.below (bJ (bQ w) _),xZ (bJ (bQ w) _),aG⟩
  cases q2:basis==2;case true=>go_wp2_with fail;refine(amo _ _ _ _ _).mono ?_;rintro e w2 ⟨⟨a,k,hka,rfl⟩,aJ⟩;have aS:=G (bS aJ HKZ.E);have kW:=G (QU.E.below aJ aG);have yg:=G (rX.E.below aJ);have hf2:=kW.E.frozen;have y1:=(GZ kW.E).2;have qM:=kW.E.lt;clear aJ;go_wp2_with fail;go_meet;exact⟨a,hka,by simpa using kW.E.bL 1 (C D a),yg.E.far w.heap.size ⟨I,I,I⟩ _ _,xZ (aS.E.setCell (p:=⟨w.heap.size,1,J⟩) (aC _) _),by simpa using qM⟩
  go_wp2_with fail;go_meet;exact⟨date,Gi.E,QU.E,rX.E,xZ HKZ.E,aG⟩
 obtain⟨kd,lD,qW,DI,hg,bV⟩:=hcut;clear x0 x1 x2 x3 x4 nX zP vU EU DF uW uX vV HKZ QU;have Ko:=G lD;have HK:=G qW;have HD:=G DI;have HG:=G hg;clear lD qW DI hg;go_upto_region 9 with fail;go_cut [9,10] (λs9 s10 wx=>∃(fb:Nat) (a k:Int) (tb:Bool),s9=aQ (N ⟨fb,0,J⟩)/\s10=ax tb/\fb≠db/\fb≠mb/\fb≠w.heap.size/\w.heap.size<=fb/\ai wx fb 316 #[C D a,C D k]/\ai wx w.heap.size 314 #[C D basis,C D kd]/\Dk wx B bf db mb b d/\w.grownBy wx (N mb));case first=>
  have hlk:=HK.E.lt;obtain⟨x0,x1,x2,x3,x4,nX,zP,vU,EU,DF,uW,uX,vV⟩:=Kz HD.E;obtain⟨k0,k1⟩:=GZ HK.E;have hmc:=HD.E.mp.lt;have hdc:=HD.E.blk.lt;obtain⟨v,tb,gu,vD,o8⟩:=am8 (gG.drew HD.E.mp) nN.E Ko.E;obtain⟨v',tb',hrun',aA6,aA7⟩:=am8 (gG.drew (HD.E.mp.alloc (ag #[C D 0,C D 0] 316))) nN.E Ko.E;have HS:af (∀o:Obj,(wc.alloc o).cell? ⟨db,30,J⟩=N (.map (N mb))/\(wc.alloc o).cell? ⟨w.heap.size,0,J⟩=N (C D basis)/\(wc.alloc o).cell? ⟨w.heap.size,1,J⟩=N (C D kd)):=λo=>⟨((bJ (bQ wc) o).cell (p:=⟨db,30,J⟩) hdc).trans uW,((bJ (bQ wc) o).cell (p:=⟨w.heap.size,0,J⟩) hlk).trans k0,((bJ (bQ wc) o).cell (p:=⟨w.heap.size,1,J⟩) hlk).trans k1⟩;have HE:af (∀a k:Int,ai ((wc.alloc (ag #[C D a,C D k] 316)).drew) wc.heap.size 316 #[C D a,C D k]/\ai ((wc.alloc (ag #[C D a,C D k] 316)).drew) w.heap.size 314 #[C D basis,C D kd]/\Dk ((wc.alloc (ag #[C D a,C D k] 316)).drew) B bf db mb b d/\w.grownBy ((wc.alloc (ag #[C D a,C D k] 316)).drew) (N mb)):=λa k=>⟨(ai.new wc _ _).drew,(HK.E.alloc _).drew,HD.E.below (kD (bJ (bQ wc) _)),HG.E.trans (xZ (kD (bJ (bQ wc) _)))⟩;refine iA (S:=λy=>y.cell? ⟨db,30,J⟩=N (.map (N mb))/\y.cell? ⟨w.heap.size,0,J⟩=N (C D basis)/\y.cell? ⟨w.heap.size,1,J⟩=N (C D kd)) dh ⟨uW,k0,k1⟩ (λbg=>?_);refine aA 0 ?_;refine aA 1 ?_;refine aA 2 ?_;refine aA 3 ?_;refine aA 4 ?_;refine uF 5 9 (λK hK=>?_) (λK hK=>?_)
  ·go_simp;refine bF hK bg (λ_=>?_);clear hK K;clear gu;obtain⟨a,k,rfl⟩:∃a k:Int,v=aD #[C D a,C D k]:=by
    cases tb;·exact⟨0,0,o8 rfl⟩
    exact vD rfl
   refine aA 6 ?_;refine aA 7 ?_;refine aA 8 ?_;refine bK 9 (λK hK=>?_);go_simp;refine bF hK (HS.E _) (λ_=>?_);clear hK K;refine bK 10 (λK hK=>?_);go_simp;refine bF hK (HS.E _) (λ_=>?_);clear hK K;refine aA 11 ?_;refine gI ?_;clear bg x0 x1 x2 x3 x4 nX zP vU EU DF uW uX vV k0 k1;go_wp2_with fail;go_meet;exact⟨wc.heap.size,a,k,tb,rfl,rfl,I,I,I,I,HE.E a k⟩
  go_simp;refine bF hK (HS.E _) (λ_=>?_);clear hK K;refine bK 5 (λK hK=>?_);go_simp;refine bF hK (HS.E _) (λ_=>?_);clear hK K;clear hrun';obtain⟨a,k,rfl⟩:∃a k:Int,v'=aD #[C D a,C D k]:=by
   cases tb';·exact⟨0,0,aA7 rfl⟩
   exact aA6 rfl
  refine aA 6 ?_;refine aA 7 ?_;refine aA 8 ?_;refine bK 10 (λK hK=>?_);go_simp;refine bF hK (HS.E _) (λ_=>?_);clear hK K;refine aA 11 ?_;refine gI ?_;clear bg x0 x1 x2 x3 x4 nX zP vU EU DF uW uX vV k0 k1;go_wp2_with fail;go_meet;exact⟨wc.heap.size,a,k,tb',rfl,rfl,I,I,I,I,HE.E a k⟩
 obtain⟨fb,a,k,tb,rfl,rfl,n1,n2,n3,n4,zG,qW,DI,hg⟩:=hcut;have HF3:=G zG;have zm:=G qW;have ry:=G DI;have DN:=G hg;clear zG qW DI hg HK HD HG;cases tb
 ·go_upto_if 53 with fail;go_cut [] (λwx=>∃a k:Int,ai wx fb 316 #[C D a,C D k]/\ai wx w.heap.size 314 #[C D basis,C D kd]/\Dk wx B bf db mb b d/\w.grownBy wx (N mb));case first=>
   cases q2:basis==2;case true=>go_wp2_with fail;have Uz:=G (Yf ry.E zm.E);unfold Ye at Uz;refine iA (S:=λy=>y.rangeAt db 0 (dx b.g).toList/\y.cell? ⟨db,22,J⟩=N (O b.Ar b.nr b.cr)/\y.cell? ⟨db,31,J⟩=N (au ⟨d.cur.toArray⟩)/\y.cell? ⟨w.heap.size,1,J⟩=N (C D kd)) dh Uz.E (λbg=>?_);refine aA 0 ?_;refine aA 1 ?_;refine aA 2 ?_;refine aA 3 ?_;refine Q7 4 29 (.tmp 58) db 0 (dx b.g) _ (λu h=>h.1) underlying29 rfl Y4 ?_;refine aA 5 ?_;refine aA 6 ?_;refine aA 7 ?_;refine aA 8 ?_;refine aA 9 ?_;refine aA 10 ?_;refine aA 11 ?_;refine aA 12 ?_;refine aA 13 ?_;refine aA 14 ?_;refine aA 15 ?_;refine bK 16 (λK hK=>?_);go_simp;refine(aAX b.g b.rs b.Ar b.nr b.cr d.cur kd B _ (ry.E.drew.bk.gr) (Ra ry.E.drew) ry.E.drew.bk.rt ry.E.cu).mono ?_;exact am9
   go_wp2_with fail;have Uz:=G (Yf ry.E zm.E);unfold Ye at Uz;refine iA (S:=λy=>y.rangeAt db 0 (dx b.g).toList/\y.cell? ⟨db,22,J⟩=N (O b.Ar b.nr b.cr)/\y.cell? ⟨db,31,J⟩=N (au ⟨d.cur.toArray⟩)/\y.cell? ⟨w.heap.size,1,J⟩=N (C D kd)) dh Uz.E (λbg=>?_);refine aA 0 ?_;refine aA 1 ?_;refine aA 2 ?_;refine aA 3 ?_;refine Q7 4 29 (.tmp 80) db 0 (dx b.g) _ (λu h=>h.1) underlying29 rfl Y4 ?_;refine aA 5 ?_;refine aA 6 ?_;refine aA 7 ?_;refine aA 8 ?_;refine aA 9 ?_;refine aA 10 ?_;refine aA 11 ?_;refine aA 12 ?_;refine aA 13 ?_;refine aA 14 ?_;refine aA 15 ?_;refine bK 16 (λK hK=>?_);go_simp;refine(aA2 b.g b.rs b.Ar b.nr b.cr d.cur kd B _ (ry.E.drew.bk.gr) (Ra ry.E.drew) ry.E.drew.bk.rt ry.E.cu).mono ?_;exact am9
  obtain⟨a,k,zG,qW,DI,hg⟩:=hcut;have oL:=G zG;have zJ:=G qW;have HD6:=G DI;have HG6:=G hg;clear zG qW DI hg HF3 zm ry DN;go_upto_region 14 with fail;obtain⟨x0,x1,x2,x3,x4,nX,zP,vU,EU,DF,uW,uX,vV⟩:=Kz HD6.E;obtain⟨k0,k1⟩:=GZ zJ.E;obtain⟨f0,f1⟩:=GZ oL.E;obtain⟨w5,gu,uT,IQ⟩:=aA4 (P:=PFo) (gG.drew HD6.E.mp) nN.E Ko.E ⟨a,k,rfl⟩;have HD7:=G (HD6.E.drew.map uT IQ);have HF7:=G (oL.E.drew.grown uT yj);have HK7:=G (zJ.E.drew.grown uT yj);have HG7:=G ((HG6.E.trans (xZ (kD (bQ _)))).trans uT);refine iA (S:=λy=>y.cell? ⟨db,30,J⟩=N (.map (N mb))/\y.cell? ⟨w.heap.size,0,J⟩=N (C D basis)/\y.cell? ⟨w.heap.size,1,J⟩=N (C D kd)/\y.cell? ⟨fb,0,J⟩=N (C D a)/\y.cell? ⟨fb,1,J⟩=N (C D k)) dh ⟨uW,k0,k1,f0,f1⟩ (λbg=>?_);refine aA 0 ?_;refine aA 1 ?_;refine aA 2 ?_;refine aA 3 ?_;refine aA 4 ?_;refine aA 5 ?_;refine bK 6 (λK hK=>?_);go_simp;refine bF hK ⟨(Kz HD7.E).2.2.2.2.2.2.2.2.2.2.1,(GZ HK7.E).1,(GZ HK7.E).2,(GZ HF7.E).1,(GZ HF7.E).2⟩ (λ_=>?_);clear hK K gu bg;refine gI ?_;clear x0 x1 x2 x3 x4 nX zP vU EU DF uW uX vV k0 k1 f0 f1 uT IQ;go_wp2_with fail;go_quiet(fail);go_wp2_with fail;go_ret2;exact⟨⟨_,_,rfl⟩,HD7.E.below (EN (bQ _) _),HG7.E.trans (xZ (EN (bQ _) _))⟩
 obtain⟨f0,f1⟩:=GZ HF3.E;go_wp2_with fail;go_quiet(fail);go_wp2_with fail;go_ret2;exact⟨⟨_,_,rfl⟩,ry.E.below (EN (bQ _) _),DN.E.trans (xZ (EN (bQ _) _))⟩
theorem aA8(l:List bE)(A:Option aK)(n c:Nat)(code:Int)(B:Nat)(w:Y)(hr:Reads w B 4 A n (jS l))(hB:B<=w.heap.size)(hn:n<=1000)(aX:∀x∈l,Dh x):
  aF aa 126 #[O A n c,code] w λe w'=>(∃(a b c d:Int) (t:Bool),e=aI (bz #[aD #[a,b,c,d],t])/\fU c)/\aj w w w':=by
 refine(uP l A n c code B w hr hB I).mono ?_;rintro e w' ⟨rfl,hb⟩;refine⟨?_,hb⟩;unfold Qe;split;·next x h=>exact⟨_,_,_,_,_,rfl,(aX _ (RU h)).2.2.1⟩
 exact⟨_,_,_,_,_,rfl,amm⟩
theorem aA9(b:jY)(d:uq)(B bf db mb:Nat)(acc date:Int)(w:Y)(h:Dk w B bf db mb b d)(Kk:fU date):
  aF aa 66 #[aQ (N ⟨db,0,J⟩),C D acc,C D date] w λe w'=>(∃m v k:Int,e=aI (bz #[C D m,C D v,C D k]))/\Dk w' B bf db mb b d/\w.grownBy w' (N mb):=by
 have HD:=G h;have Gi:=G Kk;have Ga:=h.en;obtain⟨ad,hA,dU,c0,c1,c2,c3,c4⟩:=h.bk.gr.mH.en.Ta h.en;have dK:b.g.dS.getD d.bD ay∈b.g.dS:=by have hl:=Oc h.bk.gr.mH.en;simp[dO,show d.bD<b.g.dS.length by omega]
 have HAt:af (∀(W:Y),aj w.heap.size w W->_):=λW hW=>azN (b.g.dS.getD d.bD ay) acc d.last B W (((h.below hW).bk.gr.mH.ok _ dK)) (Ra (h.below hW)) (h.bk.gr.en _ dK) (h.bk.gr.el _ dK);obtain⟨x0,x1,x2,x3,x4,nX,zP,vU,EU,DF,uW,uX,vV⟩:=Kz h;have CV:=h.blk.lt;have hBw:=Ra h;have fq:(ad.add (d.bD*5)).block<w.heap.size:=by rw[Q9];omega
 rw[hA] at nX;clear h Kk dK hA;generalize b.g.dS.getD d.bD ay=en at*;unfold Gp at HAt;obtain⟨e0,e1,e2,e3,e4,e5,e6,e7,e8,e9,CL⟩:=en;simp only[] at c0 c1 c2 c3 c4 HAt;have b3:(d.bD:Int)<(b.g.ne:Int):=I;go_enter func66,ntmps66;go_upto_region 1 with fail;refine iA (S:=λy=>y.cell? ⟨db,20,J⟩=N (O (N ad) b.g.ne b.g.ce)/\y.cell? ⟨db,27,J⟩=N (C D d.bD)/\y.cell? ⟨db,29,J⟩=N (C D d.last)/\y.cell? (ad.add (d.bD*5))=N (au ⟨e0.toArray⟩)/\y.cell? ⟨(ad.add (d.bD*5)).block,(ad.add (d.bD*5)).off+1,J⟩=N (au ⟨e1.toArray⟩)/\y.cell? ⟨(ad.add (d.bD*5)).block,(ad.add (d.bD*5)).off+2,J⟩=N (O e2 e3 e4)/\y.cell? ⟨(ad.add (d.bD*5)).block,(ad.add (d.bD*5)).off+3,J⟩=N (O e6 e7 e8)/\y.cell? ⟨(ad.add (d.bD*5)).block,(ad.add (d.bD*5)).off+4,J⟩=N (ax CL)) dh ⟨nX,vU,DF,c0,c1,c2,c3,c4⟩ (λbg=>?_);refine aA 0 ?_;refine aA 1 ?_;refine aA 2 ?_;refine aA 3 ?_;refine aA 4 ?_;refine aA 5 ?_;refine aA 6 ?_;refine aA 7 ?_;refine aA 8 ?_;refine aA 9 ?_;refine aA 10 ?_;refine aA 11 ?_;refine aA 12 ?_;refine aA 13 ?_;refine aA 14 ?_;refine aA 15 ?_;refine aA 16 ?_;refine bK 17 (λK hK=>?_);go_simp;refine(HAt.E _ (kD (bQ w))).mono ?_;rintro e w1 ⟨⟨m,k,rfl⟩,aB⟩;have aM:=G (bS aB (kD (bQ w)));dsimp only
 refine bF hK ⟨(aM.E.cell (p:=⟨db,20,J⟩) CV).trans nX,(aM.E.cell (p:=⟨db,27,J⟩) CV).trans vU,(aM.E.cell (p:=⟨db,29,J⟩) CV).trans DF,(aM.E.cell fq).trans c0,(aM.E.cell (p:=⟨(ad.add (d.bD*5)).block,_,J⟩) fq).trans c1,(aM.E.cell (p:=⟨(ad.add (d.bD*5)).block,_,J⟩) fq).trans c2,(aM.E.cell (p:=⟨(ad.add (d.bD*5)).block,_,J⟩) fq).trans c3,(aM.E.cell (p:=⟨(ad.add (d.bD*5)).block,_,J⟩) fq).trans c4⟩ (λaa8=>?_);clear hK K bg aB;refine aA 18 ?_;refine aA 19 ?_;refine aA 20 ?_;refine aA 21 ?_;refine aA 22 ?_;refine gI ?_;clear aa8 x0 x1 x2 x3 x4 nX zP vU EU DF uW uX vV c0 c1 c2 c3 c4;have rX:=G (HD.E.below aM.E);cases hk:k==0;·go_wp2_with fail;go_ret3;exact⟨⟨_,_,_,rfl⟩,rX.E,xZ aM.E⟩
 obtain⟨x0,x1,x2,x3,x4,nX,zP,vU,EU,DF,uW,uX,vV⟩:=Kz rX.E;go_wp2_with fail;refine(aA8 b.g.jI b.g.Ac b.g.nc b.g.cc m B w1 rX.E.bk.gr.mH.ch.rd (Ra rX.E) rX.E.bk.gr.nc rX.E.bk.gr.mH.ch.ok).mono ?_;rintro e w2 ⟨⟨f0,f1,f2,f3,tb,rfl,hf2⟩,aJ⟩;have wS:=G hf2;have aS:=G (bJ (bS aJ aM.E) (ag #[C D f0,C D f1,C D f2,C D f3] 78));have yg:=G (HD.E.below aS.E);clear aJ x0 x1 x2 x3 x4 nX zP vU EU DF uW uX vV hf2;cases tb;·go_wp2_with fail;go_ret3;exact⟨⟨_,_,_,rfl⟩,yg.E,xZ aS.E⟩
 go_wp2_with fail;refine(aA5 b d B bf db mb f2 date _ yg.E wS.E Gi.E).mono ?_;rintro e w3 ⟨⟨v,k3,rfl⟩,hd3,DL⟩;have HF:=G (bI hd3 ((xZ (r:=N mb) aS.E).trans DL));clear hd3 DL;go_wp2_with fail;go_ret3;exact⟨⟨_,_,_,rfl⟩,HF.E.1,HF.E.2⟩
theorem aa9{v5:ak}(h:ai W q T #[v0,v1,v2,v3,v4,v5,v6]):ai (((((((W.setCell ⟨q,0,J⟩ u0).setCell ⟨q,1,J⟩ u1).setCell ⟨q,2,J⟩ u2).setCell ⟨q,3,J⟩ u3).setCell ⟨q,4,J⟩ u4).setCell ⟨q,5,J⟩ u5).setCell ⟨q,6,J⟩ u6) q T #[u0,u1,u2,u3,u4,u5,u6]:=by have:=((((((h.bL 0 u0).bL 1 u1).bL 2 u2).bL 3 u3).bL 4 u4).bL 5 u5).bL 6 u6;simpa using this
theorem aba{b:jY}{d:uq}(h:Dk W B bf db mb b d)(hq:bf<=q/\q≠db/\q≠mb):Dk (((((((W.setCell ⟨q,0,J⟩ u0).setCell ⟨q,1,J⟩ u1).setCell ⟨q,2,J⟩ u2).setCell ⟨q,3,J⟩ u3).setCell ⟨q,4,J⟩ u4).setCell ⟨q,5,J⟩ u5).setCell ⟨q,6,J⟩ u6) B bf db mb b d:=((((((h.far q hq 0 u0).far q hq 1 u1).far q hq 2 u2).far q hq 3 u3).far q hq 4 u4).far q hq 5 u5).far q hq 6 u6
theorem abb{r:Option Nat}(h:w.grownBy W r)(hq:w.heap.size<=q):w.grownBy (((((((W.setCell ⟨q,0,J⟩ u0).setCell ⟨q,1,J⟩ u1).setCell ⟨q,2,J⟩ u2).setCell ⟨q,3,J⟩ u3).setCell ⟨q,4,J⟩ u4).setCell ⟨q,5,J⟩ u5).setCell ⟨q,6,J⟩ u6) r:=MC (MC (MC (MC (MC (MC (MC h hq 0 u0) hq 1 u1) hq 2 u2) hq 3 u3) hq 4 u4) hq 5 u5) hq 6 u6
theorem seven{v5:ak}(h:ai W q T #[v0,v1,v2,v3,v4,v5,v6]):W.cell? ⟨q,0,J⟩=N v0/\W.cell? ⟨q,1,J⟩=N v1/\W.cell? ⟨q,2,J⟩=N v2/\W.cell? ⟨q,3,J⟩=N v3/\W.cell? ⟨q,4,J⟩=N v4/\W.cell? ⟨q,5,J⟩=N v5/\W.cell? ⟨q,6,J⟩=N v6:=⟨h.cell 0,h.cell 1,h.cell 2,h.cell 3,h.cell 4,h.cell 5,h.cell 6⟩
def aBa(e:Ending):Prop:=∃a0 a1 a2 a3 a4 a5 a6 k:Int,e=aI (bz #[aD #[a0,a1,a2,a3,a4,a5,a6],k])
theorem aBb(b:jY)(d:uq)(B bf db mb:Nat)(x:gV)(line Bx:Nat)(w:Y)(h:Dk w B bf db mb b d)(hx:xm w Bx x)(hBx:Bx<=w.heap.size)(hl:line<x.n)(Kk:fU x.date):
  aF aa 24 #[aQ (N ⟨db,0,J⟩),aD (jJ x),C D line] w λe w'=>aBa e/\Dk w' B bf db mb b d/\w.grownBy w' (N mb):=by
 obtain⟨i0,i1,i2,i3,i4,i5,i6⟩:=Ku x;have Bi:=XT x;obtain⟨ad,hA,dU,c0,c1,c2⟩:=hx.rd.QZ hl;rw[hA] at i6;have HD:=G h;have Gi:=G Kk;have wG:=hx.le;have fq:(ad.add (line*3)).block<w.heap.size:=by rw[Q9];omega
 have hmw:=h.mp.lt;have hdw:=h.blk.lt;have hDw:=h.lt;clear h hx Kk hA;generalize x.ls.getD line ay=ln at*;obtain⟨l0,l1,l2⟩:=ln;simp only[] at c0 c1 c2;generalize x.date=xd at*;generalize x.id=xi at*;generalize x.bD=xe at*;generalize x.n=xn at*;generalize jJ x=EA at*;have aT:=bJ (bJ (bQ w) (ag EA 90)) (ag #[C D 0,C D 0,C D 0,C D 0,C D 0,C D 0,C D 0] 101);have HE:=G ((ai.new w 90 EA).alloc (ag #[C D 0,C D 0,C D 0,C D 0,C D 0,C D 0,C D 0] 101));have HI:=G (ai.new (w.alloc (ag EA 90)) 101 #[C D 0,C D 0,C D 0,C D 0,C D 0,C D 0,C D 0]);rw[aW] at HI;have e0:=(HE.E.cell 0).trans i0;have e1:=(HE.E.cell 1).trans i1;have e2:=(HE.E.cell 2).trans i2;have e6:=(HE.E.cell 6).trans i6;have b3:(line:Int)<(xn:Int):=I;have lY:w.heap.size<((w.alloc (ag EA 90)).alloc (ag #[C D 0,C D 0,C D 0,C D 0,C D 0,C D 0,C D 0] 101)).heap.size:=bB;have g0:=(aT.cell fq).trans c0;have g1:=(aT.cell (p:=⟨(ad.add (line*3)).block,_,J⟩) fq).trans c1;have g2:=(aT.cell (p:=⟨(ad.add (line*3)).block,_,J⟩) fq).trans c2;go_enter func24,ntmps24;go_upto_region 1 with fail;generalize pJ (pJ _ _) _=W0 at*;have aB:=bJ aT (ag #[C D l0,C D l1,C D l2] 165);have aM:=G aB;have kK:=G (HE.E.alloc (ag #[C D l0,C D l1,C D l2] 165));have HI1:=G (HI.E.alloc (ag #[C D l0,C D l1,C D l2] 165));have qR:=G (ai.new W0 165 #[C D l0,C D l1,C D l2]);clear aT aB c0 c1 c2;have BQ:(ad.add (line*3)).block<W0.heap.size:=I;go_wp2_with fail;refine(aA9 b d B bf db mb l0 xd _ (HD.E.below aM.E) Gi.E).mono ?_;rintro e w1 ⟨⟨m,v,k,rfl⟩,pG,yU⟩;have rX:=G pG;have zZ:=G ((xZ (r:=N mb) aM.E).trans yU);have q9:=G (kK.E.grown yU yj);have sV:=G (HI1.E.grown yU yj);have xK:=G (qR.E.grown yU yj);clear pG yU kK HI1 qR e0 e1 e2 e6 g0 g1 g2 HE HI BQ;obtain⟨y0,y1,y2,y3,y4,y5,y6⟩:=seven sV.E;have iB:=sV.E.frozen;have l1f:=(xK.E.cell 1);simp only[iH,iI,iX] at l1f;cases hk:k==0;·clear l1f;go_wp2_with fail;obtain⟨y0,y1,y2,y3,y4,y5,y6⟩:=seven (aa9 (u0:=(C D 0)) (u1:=(C D 0)) (u2:=(C D 0)) (u3:=(C D 0)) (u4:=(C D 0)) (u5:=(C D 0)) (u6:=(C D 0)) sV.E);refine eX (v:=bz #[aD #[C D 0,C D 0,C D 0,C D 0,C D 0,C D 0,C D 0],C D k]) Yz rfl ⟨⟨_,_,_,_,_,_,_,_,rfl⟩,aba rX.E ⟨I,I,I⟩,abb zZ.E I⟩
 clear y0 y1 y2 y3 y4 y5 y6 iB;go_wp2_with fail;refine(ay9 _ _ _).mono ?_;rintro e w2 ⟨⟨am,k2,rfl⟩,aJ⟩;have yg:=G (rX.E.below aJ);have uz:=G (zZ.E.trans (xZ (r:=N mb) aJ));have xQ:=G (q9.E.below aJ q9.E.lt);have Cs:=G (sV.E.below aJ sV.E.lt);have EE:=G (xK.E.below aJ xK.E.lt);clear aJ rX zZ q9 sV xK l1f;obtain⟨y0,y1,y2,y3,y4,y5,y6⟩:=seven Cs.E;have iB:=Cs.E.frozen;cases qF:k2==0;·skip;go_wp2_with fail;obtain⟨y0,y1,y2,y3,y4,y5,y6⟩:=seven (aa9 (u0:=(C D 0)) (u1:=(C D 0)) (u2:=(C D 0)) (u3:=(C D 0)) (u4:=(C D 0)) (u5:=(C D 0)) (u6:=(C D 0)) Cs.E);refine eX (v:=bz #[aD #[C D 0,C D 0,C D 0,C D 0,C D 0,C D 0,C D 0],C D 2]) Yz rfl ⟨⟨_,_,_,_,_,_,_,_,rfl⟩,aba yg.E ⟨I,I,I⟩,abb uz.E I⟩
 clear y0 y1 y2 y3 y4 y5 y6 iB;go_upto_region 8 with fail;obtain⟨_,_,_,_,_,_,_,_,EU,_,_,_,_⟩:=Kz yg.E;refine iA (S:=λy=>y.rangeAt db 0 (dx b.g).toList/\y.cell? ⟨db,28,J⟩=N (C D d.p)/\y.cell? ⟨w.heap.size,2,J⟩=N (C D xd)) dh ⟨aeG yg.E.blk,EU,(xQ.E.cell 2).trans i2⟩ (λbg=>?_);refine aA 0 ?_;refine aA 1 ?_;refine aA 2 ?_;refine aA 3 ?_;refine Q7 4 29 (.tmp 47) db 0 (dx b.g) _ (λu h=>h.1) underlying29 rfl Y4 ?_;refine aA 5 ?_;refine aA 6 ?_;refine aA 7 ?_;refine aA 8 ?_;refine aA 9 ?_;refine aA 10 ?_;refine aA 11 ?_;refine bK 12 (λK hK=>?_);go_simp;refine(azR b.g m xd d.p B _ (yg.E.drew.bk.gr) (Ra yg.E.drew)).mono ?_;rintro e w3 ⟨⟨pl,k3,rfl⟩,aR⟩;have ry:=G (yg.E.drew.below aR);have DN:=G ((uz.E.trans (xZ (kD (bQ _)))).trans (xZ (r:=N mb) aR));have zH:=G (xQ.E.drew.below aR xQ.E.drew.lt);have Dw:=G (Cs.E.drew.below aR Cs.E.drew.lt);have IP:=G (EE.E.drew.below aR EE.E.drew.lt);dsimp only
 refine bF hK ⟨aeG ry.E.blk,(Kz ry.E).2.2.2.2.2.2.2.2.1,(zH.E.cell 2).trans i2⟩ (λaa8=>?_);clear hK K bg aR EU;refine aA 13 ?_;refine aA 14 ?_;refine aA 15 ?_;refine aA 16 ?_;refine aA 17 ?_;refine gI ?_;clear aa8 yg uz xQ Cs EE;obtain⟨y0,y1,y2,y3,y4,y5,y6⟩:=seven Dw.E;have iB:=Dw.E.frozen;cases kV:k3==0;·skip;go_wp2_with fail;obtain⟨y0,y1,y2,y3,y4,y5,y6⟩:=seven (aa9 (u0:=(C D 0)) (u1:=(C D 0)) (u2:=(C D 0)) (u3:=(C D 0)) (u4:=(C D 0)) (u5:=(C D 0)) (u6:=(C D 0)) Dw.E);refine eX (v:=bz #[aD #[C D 0,C D 0,C D 0,C D 0,C D 0,C D 0,C D 0],C D 15]) Yz rfl ⟨⟨_,_,_,_,_,_,_,_,rfl⟩,aba ry.E ⟨I,I,I⟩,abb DN.E I⟩
 have e0:=(zH.E.cell 0).trans i0;have e1:=(zH.E.cell 1).trans i1;have e2:=(zH.E.cell 2).trans i2;have l2f:=(IP.E.cell 2);simp only[iH,iI,iX] at l2f;go_wp2_with fail;obtain⟨y0,y1,y2,y3,y4,y5,y6⟩:=seven (aa9 (u0:=(C D xi)) (u1:=(C D line)) (u2:=(C D xe)) (u3:=(C D pl)) (u4:=(C D l2)) (u5:=(C D xd)) (u6:=(C D am)) Dw.E);refine eX (v:=bz #[aD #[C D xi,C D line,C D xe,C D pl,C D l2,C D xd,C D am],C D 0]) Yz rfl ⟨⟨_,_,_,_,_,_,_,_,rfl⟩,aba ry.E ⟨I,I,I⟩,abb DN.E I⟩
theorem Yg{b:jY}{d:uq}(h:ai W db 93 (rz b d)):W.cell? ⟨db,0,J⟩=N (au ⟨b.g.cur.toArray⟩)/\W.cell? ⟨db,20,J⟩=N (O b.g.Ae b.g.ne b.g.ce)/\W.cell? ⟨db,27,J⟩=N (C D d.bD)/\W.cell? ⟨db,30,J⟩=N d.mv/\W.cell? ⟨db,31,J⟩=N (au ⟨d.cur.toArray⟩)/\W.cell? ⟨db,32,J⟩=N (ax d.cv):=by obtain⟨j0,_,_,_,_,j5,_,j7,_,_,j10,j11,j12⟩:=am7 b d;exact⟨(h.cell 0).trans j0,(h.cell 20).trans j5,(h.cell 27).trans j7,(h.cell 30).trans j10,(h.cell 31).trans j11,(h.cell 32).trans j12⟩
theorem aBc(b:jY)(d:uq)(B bf db ei:Nat)(w:Y)(h:ai w db 93 (rz b d))(hD:bf<=db)(Ya:B<=bf)(hb:Cy w B b)(he:ei<b.g.ne)(uM:fU d.last):
  aF aa 62 #[aQ db,ei] w λe w'=>e=aI (bz #[])/\(∃mb d',Dk w' B bf db mb b d'/\d'.p=d.p)/\w.grownBy w' (N db):=by
 obtain⟨ad,hA,dU,c0,c1,c2,c3,c4⟩:=hb.gr.mH.en.Ta he;have dK:b.g.dS.getD ei ay∈b.g.dS:=by have hl:=Oc hb.gr.mH.en;simp[dO,show ei<b.g.dS.length by omega]
 have hcl:=(hb.gr.mH.ok _ dK).cu;generalize b.g.dS.getD ei ay=en at*;obtain⟨e0,e1,e2,e3,e4,e5,e6,e7,e8,e9,CL⟩:=en;simp only[] at c0 c1 c2 c3 c4 hcl;have CV:=h.lt;have HB:=G hb;have H0:=G h;have fq:(ad.add (ei*5)).block<B:=by rw[Q9];exact dU
 have HC:af (∀W:Y,aj B w W->W.cell? ⟨(ad.add (ei*5)).block,(ad.add (ei*5)).off+1,J⟩=N (au ⟨e1.toArray⟩)):=λW hW=>(hW.cell (p:=⟨(ad.add (ei*5)).block,_,J⟩) fq).trans c1;obtain⟨x0,nX,vU,uW,uX,vV⟩:=Yg h;rw[hA] at nX;have iB:=h.frozen;clear h hb dK c0 c1 c2 c3 c4;have b3:(ei:Int)<(b.g.ne:Int):=I;go_enter func62,ntmps62;go_upto_region 1 with fail;have H1:af (ai (w.setCell ⟨db,27,J⟩ (C D ei)) db 93 (rz b {d with bD:=ei})):=H0.bL 27 (C D ei);have aM:af (aj bf w (w.setCell ⟨db,27,J⟩ (C D ei))):=(aN bf w).setCell (p:=⟨db,27,J⟩) hD _;have zZ:af (w.grownBy (w.setCell ⟨db,27,J⟩ (C D ei)) (N db)):=ve _ db 27 _;clear x0 nX vU uW uX vV iB;generalize w.setCell ⟨db,27,J⟩ (C D ei)=W1 at*;obtain⟨x0,nX,vU,uW,uX,vV⟩:=Yg H1;rw[show(({d with bD:=ei}:uq).bD)=ei from rfl] at vU;rw[hA] at nX;have c1:=HC W1 (aM.mono Ya);have iB:=H1.frozen;go_upto_region 2 with fail;have H2:af (ai (W1.setCell ⟨db,31,J⟩ (au ⟨e1.toArray⟩)) db 93 (rz b {d with bD:=ei,cur:=e1})):=H1.bL 31 (au ⟨e1.toArray⟩);have aS:af (aj bf w (W1.setCell ⟨db,31,J⟩ (au ⟨e1.toArray⟩))):=aM.setCell (p:=⟨db,31,J⟩) hD _;have uz:af (w.grownBy (W1.setCell ⟨db,31,J⟩ (au ⟨e1.toArray⟩)) (N db)):=zZ.trans (ve _ db 31 _);clear x0 nX vU uW uX vV iB c1;generalize W1.setCell ⟨db,31,J⟩ (au ⟨e1.toArray⟩)=W2 at*;obtain⟨x0,nX,vU,uW,uX,vV⟩:=Yg H2;simp only[] at uX vV uW;have iB:=H2.frozen;generalize hQ:(⟨e1.toArray⟩:ByteArray)=Q at*;generalize hCU:(⟨b.g.cur.toArray⟩:ByteArray)=CU at*;refine iA (S:=λy=>y.cell? ⟨db,31,J⟩=N (.string Q)/\y.cell? ⟨db,0,J⟩=N (.string CU)) dh ⟨uX,x0⟩ (λbg=>?_);refine aA 0 ?_;refine aA 1 ?_;refine aA 2 ?_;refine aA 3 ?_;refine aA 4 ?_;refine aA 5 ?_;refine aA 6 ?_;refine aA 7 ?_;refine aA 8 ?_;refine aA 9 ?_;refine aA 10 ?_;refine aA 11 ?_;refine aA 12 ?_;refine aA 13 ?_;obtain⟨cv,hcv⟩:∃cv:Bool,cv=(!(Q.toList==CU.toList)):=⟨_,rfl⟩;have H3:af (ai ((W2.setCell ⟨db,32,J⟩ (ax cv)).drew) db 93 (rz b {d with bD:=ei,cur:=e1,cv:=cv})):=(show ai (W2.setCell ⟨db,32,J⟩ (ax cv)) db 93 (rz b {d with bD:=ei,cur:=e1,cv:=cv}) from H2.bL 32 (ax cv)).drew;have bC:af (aj bf w ((W2.setCell ⟨db,32,J⟩ (ax cv)).drew)):=(aS.setCell (p:=⟨db,32,J⟩) hD _).trans ((kD (bQ _)).mono (by rw[wh];have:=aS.size;omega));have DN:af (w.grownBy ((W2.setCell ⟨db,32,J⟩ (ax cv)).drew) (N db)):=(uz.trans (ve _ db 32 _)).trans (xZ (kD (bQ _)));have fD:af ((W2.setCell ⟨db,32,J⟩ (ax cv)).drew.cell? ⟨db,31,J⟩=N (.string Q)/\(W2.setCell ⟨db,32,J⟩ (ax cv)).drew.cell? ⟨db,0,J⟩=N (.string CU)):=by obtain⟨y0,_,_,_,y31,_⟩:=Yg H3;rw[<-hQ,<-hCU];exact⟨y31,y0⟩
 refine bK 14 (λK hK=>?_);go_simp;rw[<-hcv];refine bF hK fD (λ_=>?_);clear hK K bg x0 nX vU uW uX vV iB fD;refine gI ?_;generalize(W2.setCell ⟨db,32,J⟩ (ax cv)).drew=W3 at*;have H4:=G (H3.alloc (.map #[] 0));obtain⟨_,_,_,y30,_,_⟩:=Yg H4;have iB:=H4.frozen;have zx:= @run_makeMap aa;have rU:=H3.lt;simp only[] at y30;go_wp2_with fail;go_end0;have hH5:ai (W3.setCell ⟨db,30,J⟩ (.map (N W3))) db 93 (rz b {d with bD:=ei,cur:=e1,cv:=cv,mv:= .map (N W3)}):=H3.bL 30 (.map (N W3));have hB5:=bC.setCell (p:=⟨db,30,J⟩) hD (.map (N W3));have hG5:=DN.trans (ve W3 db 30 (.map (N W3)));have IQ:=gG.made (M:=Uj) (P:=PFo) (W3.setCell ⟨db,30,J⟩ (.map (N W3)));rw[wh] at IQ;have dJ:=bJ (bQ (W3.setCell ⟨db,30,J⟩ (.map (N W3)))) (.map #[] 0);exact⟨rfl,⟨W3.heap.size,{d with bD:=ei,cur:=e1,cv:=cv,mv:= .map (N W3)},⟨hH5.alloc _,rfl,Ya,hD,I,I,HB.low Ya (hB5.trans (dJ.mono (by rw[wh];omega))),IQ,he,uM,hcl⟩,rfl⟩,hG5.trans (xZ dJ)⟩
theorem wpList_load_mid{a:Act}(hw:sZ o (yielded ops a.tmps)=Z)(ty:bM)(x:Operand)(ho:o.op= .load ty x)
  (b off:Nat) (hx:a.eval x=aQ (N ⟨b,off,J⟩)) (cs:List ak) (d:TypeDesc) (hc:w.rangeAt b off cs) (hu:P.underlying ty=N d) (hd:d.isRow=Z) (hi:(P.info? ty).map (·.size)=N cs.length)
  (h:wpList P ops Q rest (a.put o.dst (aD cs.toArray)) w):wpList P ops Q (o::rest) a w:=BigFrame.wpList_want hw λK hK=>by unfold yt execOp;simp only[ho,hx,Instr.loadAt,Instr.sureAddr,Sem.run_bind,Sem.run_pure,Result.andThen_ok,run_loadVar_mid w b off ty cs d hc hu hd hi];exact hK _ _ h
theorem aeJ:(aa.info? 36).map (·.size)=N 27:=by kernel_rfl
theorem aBd(b:jY)(p l:Int)(w:Y):(Instr.build 93 #[(0,aD (mJ b)),(2,p),(3,l)]).run aa w= .ok (aD (rz b ⟨0,p,l,.map J,[],X⟩)) w:=by kernel_rfl
theorem aBe(b:jY)(B:Nat)(ei p:Int)(w:Y)(hb:Cy w B b)(hB:B<=w.heap.size):
  aF aa 19 #[aD (mJ b),C D ei,C D p,ax X] w λe w'=>((∃k:Int,e=aI (bz #[aQ J,C D k])/\k≠0)\/∃db mb d,e=aI (bz #[aQ (N ⟨db,0,J⟩),C D 0])/\Dk w' B w.heap.size db mb b d)/\aj w.heap.size w w':=by
 have HJ:af (∀W:Y,aj w.heap.size w W->_):=λW hW=>aAu b.g b.xs b.Ax b.nx b.cx B W (hb.low hB hW).gr lI hb.ne (hb.low hB hW).en hb.nx;have HV:af (∀W:Y,aj w.heap.size w W->_):=λW hW=>aev b.g.cur b.rs b.Ar b.nr b.cr B W (hb.low hB hW).rt lI hb.gr.mH.cu;have uk:=G hb;obtain⟨j0,j1,j2,j3,KA,OL,OM⟩:=aa7 b;have bV:=aeF b;have HX:=G (ai.new w 36 (mJ b));have aT:=bJ (bQ w) (ag (mJ b) 36);have yU:(dx b.g).size=21:=rfl;have hgr:=aeH HX.E;have x0:=(HX.E.cell 0).trans j0;have Yh:=(HX.E.cell 21).trans OL;clear hb;go_enter func19,ntmps19;go_wp2_with(refine wpList_load_mid iN 29 _ rfl w.heap.size 0 rfl (dx b.g).toList _ hgr underlying29 rfl (by rw[JA,Mx,yU]) ?_;rw[Bl]);refine(HJ.E _ aT).mono ?_;rintro e w1 ⟨⟨a1,k,rfl⟩,aB⟩;have aM:=G (bS aB aT);have bO:=G (HX.E.below aB aG);clear aT aB hgr x0 Yh HX;have x0:=(bO.E.cell 0).trans j0;have zP:=(bO.E.cell 22).trans OM;have xx:=bO.E.lt;cases hk:k==0
 ·have qF:(k !=0)=Z:=by simpa using hk
  go_wp2_with fail;go_ret2;exact⟨.inl ⟨_,rfl,aL⟩,aM.E⟩
 obtain rfl:k=0:=MR;go_wp2_with fail;refine(HV.E _ aM.E).mono ?_;rintro e w2 ⟨⟨v,rfl⟩,aJ⟩;have aS:=G (bS aJ aM.E);have eu:=G (bO.E.below aJ xx);clear aJ aM bO x0 zP xx;cases v;·go_wp2_with fail;go_ret2;exact⟨.inl ⟨_,rfl,aL⟩,aS.E⟩
 have x1:=(eu.E.cell 1).trans j1;have x2:=(eu.E.cell 2).trans j2;have x3:=(eu.E.cell 3).trans j3;have nX:=(eu.E.cell 20).trans KA;by_cases h0:ei<0;·go_wp2_with fail;go_ret2;exact⟨.inl ⟨_,rfl,aL⟩,aS.E⟩
 have k0:decide (ei<0)=X:=by simpa using h0
 by_cases h1:ei>=(b.g.ne:Int);·go_wp2_with fail;go_ret2;exact⟨.inl ⟨_,rfl,aL⟩,aS.E⟩
 have k1:decide (ei>=(b.g.ne:Int))=X:=MU;go_wp2_with fail;refine(amn _ _ _ _ _).mono ?_;rintro e w3 ⟨⟨la,k3,uM,rfl⟩,aR⟩;have HLA:=G uM;have bC:=G (bS aR aS.E);have fD:=G (eu.E.below aR eu.E.lt);clear aR aS eu x1 x2 x3 nX uM;cases kV:k3==0;·go_wp2_with fail;go_ret2;exact⟨.inl ⟨_,rfl,aL⟩,bC.E⟩
 obtain⟨en,rfl⟩:∃n:Nat,ei=(n:Int):=⟨ei.toNat,I⟩;have Ga:en<b.g.ne:=I;have HRB:=G (λW=>aBd b p la W);obtain⟨DC,hDC⟩:∃DC,rz b ⟨0,p,la,.map J,[],X⟩=DC:=⟨_,rfl⟩;rw[hDC] at HRB;have zw:=aa1 fD.E;have HDC:=G hDC;clear hDC;have GU:=G uk.E;clear uk HJ HV h0 h1 k0 k1 j0 j1 j2 j3 KA OL OM;generalize(⟨b.g.cur.toArray⟩:ByteArray)=CU at*;generalize mJ b=BC at*;have aBf:=HRB.E;clear HRB;go_wp2_with(first|(refine wpList_load_mid iN 36 _ rfl w.heap.size 0 rfl BC.toList _ zw underlying36 rfl (by rw[aeJ,Mx,bV]) ?_;rw[Bl])|((with_reducible refine Vs rfl 93 _ rfl _ ?_ _ (aBf _) ?_);go_loud (simp only[List.map_toArray,kE,List.map_nil];rfl)));have bu:=bJ bC.E (ag DC 93);have kr:=ai.new w3 93 DC;have fM:=bC.E.size;have ED:=G (aBc b ⟨0,p,la,.map J,[],X⟩ B w.heap.size w3.heap.size en (w3.alloc (ag DC 93)) (by rw[HDC.E];exact kr) fM hB (GU.E.low hB bu) Ga HLA.E);have dE:=G bu;clear bu kr;refine ED.E.mono ?_;rintro e w4 ⟨rfl,⟨mb,d',hd,_⟩,hg⟩;have HF:=G (bI hd (dE.E.grown hg dE.E.size (λr e=>by cases e;exact fM)));clear hd hg;go_wp2_with fail;go_ret2;exact⟨.inr ⟨w3.heap.size,mb,d',rfl,HF.E.1⟩,HF.E.2⟩
section
open Go.Sort
theorem aBg(h:∃q os,W=grow (w.drewN q) os)(o:Obj):∃q os,(W.alloc o).drew=grow (w.drewN q) os:=by
 obtain⟨q,os,rfl⟩:=h;refine⟨q+1,os.push o,?_⟩;have e:(w.heap++os).push o=w.heap++os.push o:=by apply Array.ext';simp
 show({w with heap:=(w.heap++os).push o,drawn:=w.drawn+q+1}:Y)= {w with heap:=w.heap++os.push o,drawn:=w.drawn+(q+1)};rw[e];rfl
def Rb(x y:gV):Int:=Jj (mI x.date y.date) (mI x.id y.id)
theorem aBh(x y:gV)(w:Y):aF aa 21 #[aD (jJ x),aD (jJ y)] w λe w'=>e=aI (C D (Rb x y))/\∃q os,w'=grow (w.drewN q) os:=by obtain⟨i0,i1,i2,i3,i4,i5,i6⟩:=Ku x;obtain⟨k0,k1,k2,k3,k4,k5,k6⟩:=Ku y;have HF:af (Rb x y=Jj (mI x.date y.date) (mI x.id y.id)):=rfl;generalize Rb x y=r at*;generalize x.id=xi at*;generalize x.date=xd at*;generalize y.id=yi at*;generalize y.date=yd at*;generalize jJ x=EA at*;generalize jJ y=EB at*;have HG0:=G (am1 w (ag EA 90) (ag EB 90));have HA:=G ((ai.new w 90 EA).alloc (ag EB 90));have Yi:=G (ai.new (w.alloc (ag EA 90)) 90 EB);rw[aW] at Yi;go_enter func21,ntmps21;go_upto_region 1 with fail;generalize pJ (pJ _ _) _=W0 at*;have x2:=(HA.cell 2).trans i2;have x0:=(HA.cell 0).trans i0;have y2:=(Yi.cell 2).trans k2;have y0:=(Yi.cell 0).trans k0;refine iA (S:=λu=>u.cell? ⟨w,2,J⟩=N (C D xd)/\u.cell? ⟨w,0,J⟩=N (C D xi)/\u.cell? ⟨w.heap.size+1,2,J⟩=N (C D yd)/\u.cell? ⟨w.heap.size+1,0,J⟩=N (C D yi)) dh ⟨x2,x0,y2,y0⟩ (λbg=>?_);refine aA 0 ?_;refine aA 1 ?_;refine aA 2 ?_;refine aA 3 ?_;refine aA 5 ?_;refine aA 6 ?_;refine aA 7 ?_;refine aA 8 ?_;refine bK 4 (λK hK=>?_);go_simp;refine(aeE xd yd _).mono ?_;rintro e w1 ⟨rfl,rfl⟩;go_simp;refine bF hK bg (λ_=>?_);clear hK K;refine bK 9 (λK hK=>?_);go_simp;refine(aeE xi yi _).mono ?_;rintro e w1 ⟨rfl,rfl⟩;go_simp;refine bF hK bg (λ_=>?_);clear hK K;have vJ:af ((W0.alloc (ag #[C D (mI xd yd),C D (mI xi yi)] 3)).cell? ⟨w,2,J⟩=N (C D xd)/\(W0.alloc (ag #[C D (mI xd yd),C D (mI xi yi)] 3)).cell? ⟨w,0,J⟩=N (C D xi)/\(W0.alloc (ag #[C D (mI xd yd),C D (mI xi yi)] 3)).cell? ⟨w.heap.size+1,2,J⟩=N (C D yd)/\(W0.alloc (ag #[C D (mI xd yd),C D (mI xi yi)] 3)).cell? ⟨w.heap.size+1,0,J⟩=N (C D yi)):=⟨((HA.alloc _).cell 2).trans i2,((HA.alloc _).cell 0).trans i0,((Yi.alloc _).cell 2).trans k2,((Yi.alloc _).cell 0).trans k0⟩;have HN:=G (ai.new W0 3 #[C D (mI xd yd),C D (mI xi yi)]);refine bK 10 (λK hK=>?_);go_simp;refine bF hK vJ (λ_=>?_);clear hK K;refine bK 11 (λK hK=>?_);go_simp;refine(aAF (mI xd yd) (mI xi yi) W0 _ _ (HN.drew.cell 0) (HN.drew.cell 1)).mono ?_;rintro e w1 ⟨rfl,rfl⟩;rw[<-HF.E];go_simp;refine bF hK vJ (λ_=>?_);clear hK K;refine aA 12 ?_;refine gI ?_;go_wp2_with fail;go_ret;exact⟨rfl,aBg HG0 _⟩
end
section
open Go.Sort
theorem aBi(args:Array ak)(w:Y):(callFunc 21 args).run aa w= .ok (.enter 21 args) w:=by simp[go_sem]
theorem aBj(w:Y):(isAgg 90).run aa w= .ok Z w:=by kernel_rfl
theorem aBk(w:Y):(Go.sizeOf 90).run aa w= .ok 7 w:=by kernel_rfl
theorem aeK(h:R:=by simp only[jZ,nJ,or_false] at hu;rcases hu with rfl|rfl|rfl|rfl|rfl|rfl|rfl<;>rfl):R:=h
theorem ana(x:gV):∀v∈qp x,v.oneCell'=Z:=by intro u hu;unfold qp at hu;exact aeK
theorem aBl:SWO (ltOf Rb):=by
 have h:∀x y:gV,ltOf Rb x y=decide (x.date<y.date\/x.date=y.date/\x.id<y.id):=λx y=>by show decide (Jj (mI x.date y.date) (mI x.id y.id)<0)=_;rw[decide_eq_decide];unfold Jj mI;split<;>(repeat' split)<;>omega
 exact⟨λx=>by rw[h,decide_eq_false_iff_not];omega,λx y z h1 h2=>by rw[h] at *;simp only[decide_eq_true_eq] at *;omega,λx y z h1 h2=>by rw[h] at *;simp only[decide_eq_false_iff_not] at *;omega⟩
theorem aBm(ks:List gV)(A:Option aK)(n c b:Nat)(w:Y)(ho:w.ownsRow b 90 7 (O A n c) n (ks.flatMap qp))(hl:ks.length=n)(hn:n<=1000):
  aF aa 20 #[O A n c,.func (.func 21) #[] #[]] w λe w'=>e=aI (bz #[])/\∃ds:List gV,(∀x∈ds,x∈ks)/\Reads w' w' 7 A n (ds.flatMap qp)/\w.grownBy w' (O A n c).ownBlock:=by
 by_cases h0:n=0;·subst h0;refine(AnyF.slices_SortFunc_none sortE A c _ w).mono ?_;rintro e w' ⟨rfl,rfl⟩;exact⟨rfl,[],aG,⟨rfl,λh=>absurd h I⟩,⟨rfl,rfl,rfl,aC _,λ_ _ _=>rfl⟩⟩
 obtain⟨g,rfl,hg,hH⟩:=amY I XN ho hl h0;have hcmp:Go.Proofs.CmpLays aa 21 #[] qp 7 Rb g 0 ks.toArray.size w:=λm os dk _ x y=>aBh x y _;have hcon:=AnyQ.slices_SortFunc sortE 7 aBj aBk qp XN ana Rb aBl 21 #[] g 0 c ks.toArray w aBi hcmp hH hg (by rw[AX];omega);rw[AX,hl] at hcon;refine hcon.mono ?_;rintro e w' ⟨rfl,d',m,os,hp,_,rfl⟩;obtain⟨hs,hm⟩:=amZ (ks:=ks) (by rw[AX,hl];exact hp);obtain⟨h1,h2⟩:=am0 (m:=m) (os:=os) I XN hH hg hs;rw[hl] at h1;exact⟨rfl,_,hm,h1,h2⟩
theorem aBn{M:Mw}{P:ak->Prop}{c:Nat}(h:w.ownsRow base e S (O A n c) n xs)(hm:gG M P w mb)(h0:0<n):∀ad,A=N ad->N ad.block≠N mb:=by
 rintro ad rfl;obtain⟨es,dN,hb,_⟩:=hm;rcases h.2 with⟨_,h1⟩|⟨g,cap,cur,hv,_,hb',_⟩;·omega
 simp only[Value.slice.injEq] at hv;obtain⟨h1,_,_⟩:=hv;cases h1;intro e;cases e;rw[hb] at hb';cases hb'
theorem kS.reads{q:Option Nat}{n0 m:Nat}(h:kS q n0 W W')(hr:Reads W B S A m xs)(hB:B<=n0)(hA:0<m->∀ad,A=N ad->N ad.block≠q):Reads W' B S A m xs:=by exact amV
end
theorem aBo:(aa.info? 101).map (λi=>(i.zero,i.size,i.bytes))=N (N (aD #[C D 0,C D 0,C D 0,C D 0,C D 0,C D 0,C D 0]),7,56):=by kernel_rfl
theorem aBp:(aa.info? 90).map (λi=>(i.zero,i.size,i.bytes))=N (N (aD #[C D 0,C D 0,C D 0,C D 0,C D 0,au ⟨#[]⟩,O J 0 0]),7,80):=by kernel_rfl
theorem aBq(x:mP):∀v∈Uc x,v.oneCell'=Z:=by intro u hu;unfold Uc at hu;exact aeK
theorem aBr(l:List mP)(x:mP):EJ (l++ [x])=EJ l++Uc x:=by unfold EJ;rw[oM,List.flatten_append];simp
theorem aBs{g:Nat}{cs:Array ak}(h:w.ownsRow base e S v n xs)(hg:ai w g t cs)(aY:e≠t):N g≠v.ownBlock:=λe=>iQ h hg aY e.symm
theorem Dk.aBt{b:jY}{d:uq}{r:Option Nat}(h:Dk W B bf db mb b d)(hg:W.grownBy W' r)(hr:∀k,r=N k->db<k/\mb<k):Dk W' B bf db mb b d:=by
 have aY:∀k,k<=db\/k<=mb->N k≠r:=λk hk e=>by have:=hr k e.symm;omega
 refine⟨(hg.block db h.blk.lt (aY db (.inl (aC _)))).trans h.blk,h.mv,h.BD,h.dD,h.mD,h.nd,h.bk.low (n:=bf) h.BD ?_,h.mp.grown hg (aY mb (.inr (aC _))),h.en,h.la,h.cu⟩;exact⟨hg.os,hg.tape,hg.output,hg.size,λk hk=>hg.block k (by have:=h.lt;omega) (aY k (.inl (by have:=h.dD;omega)))⟩
def aBu(w:Y)(e:Ending)(w':Y):Prop:=∃(v:ak) (l:List mP) (k:Int),e=aI (bz #[v,k])/\(k=0->l.length<=1000000000000/\w'.ownsRow w 101 7 v l.length (EJ l))/\aj w w w'
theorem anb(h:R:=by go_wp2_with fail;go_quiet(fail);obtain⟨_,hO,hBz,_⟩:=HQ nq;go_wp2_with fail;exact⟨⟨i+1,es,bR,I,I,Sc,hO,GU.trans (hBz.mono eP)⟩,bW⟩):R:=h
theorem aBv(b:jY)(B:Nat)(ei p:Int)(w:Y)(hb:Cy w B b)(hB:B<=w.heap.size):
  aF aa 6 #[aD (mJ b),ei,p] w (aBu w):=by
 obtain⟨it,iE,aBw,aBx,aBy⟩:=info_parts aBo;obtain⟨ie,hie,aBz,aBA,aBB⟩:=info_parts aBp;have AQ:af (∀W:Y,aj w w W->_):=λW hW=>aBe b B ei p W (hb.low hB hW) lI;obtain⟨j0,j1,j2,j3,KA,OL,OM⟩:=aa7 b;have bV:=aeF b;have vo:=hb.nx;clear hb j0 j1 j2 j3 KA OM;generalize mJ b=BC at*;have HX:=G (ai.new w 36 BC);have aT:=bJ (bQ w) (ag BC 36);have zw:=aa1 HX;go_enter func6,ntmps6;go_wp2_with(refine wpList_load_mid iN 36 _ rfl w.heap.size 0 rfl BC.toList _ zw underlying36 rfl (by rw[aeJ,Mx,bV]) ?_;rw[Bl]);refine(AQ _ aT).mono ?_;rintro e w1 ⟨⟨k,rfl,hk⟩|⟨db,mb,d,rfl,hd⟩,aB⟩
 ·have qF:(k !=0)=Z:=by simpa using hk
  have hB1:=bS aB aT;have HK:=G hk;clear aT aB zw hk;go_wp2_with fail;go_ret2;exact⟨_,[],k,rfl,λh=>absurd h HK,hB1⟩
 have aM:=G (bS aB aT);have bO:=G (HX.below aB aG);have hD0:(w.alloc (ag BC 36)).heap.size=w.heap.size+1:=aG;rw[hD0] at hd;have rX:=G hd;have xx:=bO.lt;have Yh:=(bO.cell 21).trans OL;clear aT aB zw hd HX hD0;go_wp2_with fail;go_loopw [10,32] (λev iv wr=>∃(i:Nat) (es:List gV),iv=C D i/\i<=b.nx/\es.length<=i/\(∀x∈es,x∈b.xs)/\wr.ownsRow w1 90 7 ev es.length (es.flatMap qp)/\aj w1 w1 wr) (λ_ iv _=>b.nx-(intOf iv).toNat);case atStart=>exact⟨0,[],rfl,I,aG,aG,ng _ _ _ _,bQ _⟩
 obtain⟨i,es,rfl,hi,yF,hem,aV,aH⟩:=hrel;obtain⟨Ae,ce,rfl⟩:=eO aV;obtain⟨wo,rfl⟩:=dz wr;have UA:=G (rX.below aH);have GU:=G aH;have lU:=G aV;have Sc:=G hem;have eP:=aH.size;clear Yh aV hem aH;by_cases aO:i<b.nx
 ·obtain⟨ad,hA,dU,c0,c1,c2,c3,c4,c5,c6⟩:=UA.bk.en.rd.XP aO;have dK:b.xs.getD i ay∈b.xs:=by have hl:=XO UA.bk.en.rd;simp[dO,show i<b.xs.length by omega]
  have Yj:=G dK;clear dK;have b3:(i:Int)<(b.nx:Int):=I;rw[hA];obtain⟨_,_,_,_,_,_,_,_,_,DF,_,_,_⟩:=Kz UA;have hdo:=UA.blk.lt;generalize b.xs.getD i ay=x at*;obtain⟨z0,z1,z2,z3,z4,z5,z6,z7,z8,z9⟩:=x;simp only[] at c0 c1 c2 c3 c4 c5 c6;have HQ:af (∀n,ai ((wo.alloc (ag #[z0,z1,z2,z3,z4,z5,O z6 z7 z8] 90)).drewN n) wo 90 #[z0,z1,z2,z3,z4,z5,O z6 z7 z8]/\((wo.alloc (ag #[z0,z1,z2,z3,z4,z5,O z6 z7 z8] 90)).drewN n).ownsRow w1 90 7 (O Ae es.length ce) es.length (es.flatMap qp)/\aj wo wo ((wo.alloc (ag #[z0,z1,z2,z3,z4,z5,O z6 z7 z8] 90)).drewN n)/\((wo.alloc (ag #[z0,z1,z2,z3,z4,z5,O z6 z7 z8] 90)).drewN n).heap.size=wo.heap.size+1):=λn=>⟨ai.new wo _ _,lU.alloc _,EN (bJ (bQ wo) _) n,by show(wo.alloc _).heap.size=_;rw[aW]⟩;cases q1:z1==ei;·exact anb
  cases q2:decide (z2<=d.last);·exact anb
  go_wp2_with fail;go_quiet(fail);obtain⟨hE,hO,hBz,amA⟩:=HQ nq;have nk:=G hO;have DR:w1.heap.size<=(World.drewN (wo.alloc (ag #[z0,z1,z2,z3,z4,z5,O z6 z7 z8] 90)) nq).heap.size:=I;clear amA;have bC:=G (GU.trans (hBz.mono eP));clear HQ DF c0 c1 c2 c3 c4 c5 c6 hO hBz;generalize World.drewN (wo.alloc _) nq=W3 at*;obtain⟨f0,f1,f2,f3,f4,f5,f6⟩:=seven hE;have jg:=G (mX W3 #[z0,z1,z2,z3,z4,z5,O z6 z7 z8] 90 7 rfl);clear hE;go_wp2_with(at_builtin;go_loud (refine pX _ rfl (.tmp 49) (.tmp 51) _ rfl w1.heap.size 90 ie _ 7 80 underlying30 hie aBz aBA aBB rfl I _ es.length (es.flatMap qp) rfl (nk.alloc _) (W3.heap.size+1) (N ⟨W3,0,J⟩) 1 1 (qp ⟨z0,z1,z2,z3,z4,z5,z6,z7,z8,z9⟩) rfl jg (ana _) lH I bB ?_;intro v6 w6 dw bU iT;obtain⟨A6,c6,rfl⟩:=eO dw;have dJ:=(bC.alloc I (ag #[z0,z1,z2,z3,z4,z5,O z6 z7 z8] 90)).trans (tu (nk.alloc _) bU bB);have rW:w6.ownsRow w1 90 7 (O A6 (es.length+1) c6) (es++ [gV.mk z0 z1 z2 z3 z4 z5 z6 z7 z8 z9]).length ((es++ [gV.mk z0 z1 z2 z3 z4 z5 z6 z7 z8 z9]).flatMap qp):=(by rw[eB,List.flatMap_append,List.flatMap_singleton];exact dw);clear dw bU iT));exact⟨⟨i+1,es++ [gV.mk z0 z1 z2 z3 z4 z5 z6 z7 z8 z9],bR,I,G5,λx hx=>by rw[pW,lF] at hx;exact hx.elim (λh=>Sc x h) (λh=>by rw[h];exact Yj),rW,dJ⟩,bW⟩
 have Ci:=G (aBm es Ae es.length ce w1 wo lU rfl I);go_wp2_with fail;refine Ci.mono ?_;rintro e w2 ⟨rfl,ds,hdm,nE,hg⟩;have wR:=G (λx hx=>Sc x (hdm x hx));have aS:=G (GU.grown hg eP (λr e=>lJ lU r e));have yg:=G (rX.below aS);have HNA:=G (aBn lU UA.mp);have jy:=G nE;have hds:ds.length=es.length:=XO nE;clear hdm nE hg Ci lU GU Sc UA;generalize es.length=n' at*;have hB2:=aS;have gM:w.heap.size<=w1.heap.size:=aM.size;have Nw:af (aj w w w2):=aM.trans (hB2.mono gM);have Ov:=yg.mp.lt;have aDG:=yg.blk.lt;have hmD:=yg.mD;clear hB2;go_wp2_with fail;go_loopw [13,58] (λov iv wr=>∃(i:Nat) (l:List mP),iv=C D i/\i<=n'/\l.length<=i*1000/\wr.ownsRow w2 101 7 ov l.length (EJ l)/\kS (N mb) w2 w2 wr/\Dk wr B (w.heap.size+1) db mb b d/\aj w w wr) (λ_ iv _=>n'-(intOf iv).toNat);case atStart=>exact⟨0,[],rfl,I,aG,ng _ _ _ _,kS.refl _ _ _,yg,Nw⟩
 obtain⟨i2,l,rfl,Ct,BO,aV,uS,DI,sK⟩:=hrel;obtain⟨wq,rfl⟩:=dz wr;obtain⟨Ao,co,rfl⟩:=eO aV;have lU:=G aV;have yP:=G uS;have DD:=G DI;have nQ:=G sK;have XA:=uS.size;clear aV uS DI sK;by_cases vC:i2<n'
 ·have b4:(i2:Int)<(n':Int):=by omega
  obtain⟨ad,hA,dU,c0,c1,c2,c3,c4,c5,c6⟩:=(yP.reads jy (aC _) HNA).XP vC;have Yj:af (ds.getD i2 ay∈b.xs):=wR _ (by simp[dO,show i2<ds.length by omega]);subst hA;generalize ds.getD i2 ay=x at*;have hn7:=(DD.bk.en.ok x Yj).le;obtain⟨z0,z1,z2,z3,z4,z5,z6,z7,z8,z9⟩:=x;simp only[] at c0 c1 c2 c3 c4 c5 c6 hn7;have jB:=bJ (bQ wq) (ag #[z0,z1,z2,z3,z4,z5,O z6 z7 z8] 90);have Bj:=G (ai.new wq 90 #[z0,z1,z2,z3,z4,z5,O z6 z7 z8]);have zQ:=G (lU.alloc (ag #[z0,z1,z2,z3,z4,z5,O z6 z7 z8] 90));have qV:=G (yP.trans (kS.of_below jB XA));have HD0:=G (DD.below jB);have aP:=G (bJ nQ (ag #[z0,z1,z2,z3,z4,z5,O z6 z7 z8] 90));have lY:wq.heap.size<(wq.alloc (ag #[z0,z1,z2,z3,z4,z5,O z6 z7 z8] 90)).heap.size:=aG;clear jB;go_wp2_with fail;go_loopw [13,65] (λov jv wr=>∃(j:Nat) (l:List mP),jv=C D j/\j<=z7/\l.length<=i2*1000+j/\wr.ownsRow w2 101 7 ov l.length (EJ l)/\kS (N mb) w2 w2 wr/\Dk wr B (w.heap.size+1) db mb b d/\aj w w wr/\ai wr wq 90 #[z0,z1,z2,z3,z4,z5,O z6 z7 z8]/\wq.heap.size<wr.heap.size) (λ_ jv _=>z7-(intOf jv).toNat);case atStart=>exact⟨0,l,rfl,I,I,zQ,qV,HD0,aP,Bj,lY⟩
  clear zQ qV HD0 aP Bj lY lU yP DD nQ c0 c1 c2 c3 c4 c5 c6;obtain⟨j,l,rfl,hj,BO,aV,uS,DI,sK,hE,bV⟩:=hrel;obtain⟨wp,rfl⟩:=dz wr;obtain⟨Ao,co,rfl⟩:=eO aV;have lU:=G aV;have yP:=G uS;have DD:=G DI;have nQ:=G sK;have HE:=G hE;have Ia:=uS.size;clear aV uS DI sK hE;by_cases hlt3:j<z7
  ·obtain⟨f0,f1,f2,f3,f4,f5,f6⟩:=seven HE;have wP:=G (aBb b d B (w.heap.size+1) db mb ⟨z0,z1,z2,z3,z4,z5,z6,z7,z8,z9⟩ j B wp DD (DD.bk.en.ok _ Yj) (Ra DD) hlt3 (DD.bk.dt _ Yj));unfold jJ at wP;simp only[] at wP;go_wp2_with fail;refine wP.mono ?_;rintro e w5 ⟨⟨a0,a1,a2,a3,a4,a5,a6,k,rfl⟩,hd5,uT⟩;have BJ:=uT.size;have HD6:=G (hd5.below (bJ (bQ w5) (ag #[a0,a1,a2,a3,a4,a5,a6] 101)));have xX:=G ((lU.kept uT (.inr (λe=>by have:=lJ lU mb e;omega))).alloc (ag #[a0,a1,a2,a3,a4,a5,a6] 101));have LW:=G ((HE.grown uT yj).alloc (ag #[a0,a1,a2,a3,a4,a5,a6] 101));have Ba:=G ((yP.trans (kS.amU uT Ia)).trans (kS.of_below (bJ (bQ w5) (ag #[a0,a1,a2,a3,a4,a5,a6] 101)) I));have fT:=G ((nQ.grown uT nQ.size (λr e=>by cases e;omega)).alloc (by have:=nQ.size;omega) (ag #[a0,a1,a2,a3,a4,a5,a6] 101));clear hd5 uT f0 f1 f2 f3 f4 f5 f6;cases hk:k==0;·have Qs:af (k≠0):=(show _≠_ by simpa using hk);go_wp2_with fail;go_ret2;exact⟨_,[],k,rfl,λh=>absurd h Qs,fT⟩
   have jg:=G (mX (w5.alloc (ag #[a0,a1,a2,a3,a4,a5,a6] 101)) #[a0,a1,a2,a3,a4,a5,a6] 101 7 rfl);rw[aW] at jg;have dJ:w2.heap.size<=w5.heap.size:=I;have fO:l.length<=1000000:=I;go_wp2_with(at_builtin;go_loud (refine pX _ rfl (.tmp 78) (.tmp 80) _ rfl w2.heap.size 101 it _ 7 56 underlying40 iE aBw aBx aBy rfl I _ l.length (EJ l) rfl (xX.alloc _) (w5.heap.size+1+1) (N ⟨w5.heap.size+1,0,J⟩) 1 1 (Uc ⟨a0,a1,a2,a3,a4,a5,a6⟩) rfl jg (aBq _) lH I bB ?_;intro v7 w7 Kn EK aaQ;obtain⟨A7,c7,rfl⟩:=eO Kn;have eH:=(bJ (bQ (w5.alloc (ag #[a0,a1,a2,a3,a4,a5,a6] 101))) (ag #[a0,a1,a2,a3,a4,a5,a6] 101));have fF:=tu (xX.alloc (ag #[a0,a1,a2,a3,a4,a5,a6] 101)) EK bB;have jk:=G ((fT.trans (eH.mono bB)).grown EK bB (λr e=>by have:=lJ xX r e;omega));have HK7:=G ((Ba.trans (kS.of_below eH bB)).trans (kS.of_below fF (aC _)));have Gt:=G ((LW.alloc (ag #[a0,a1,a2,a3,a4,a5,a6] 101)).grown EK (aBs (xX.alloc (ag #[a0,a1,a2,a3,a4,a5,a6] 101)) (LW.alloc (ag #[a0,a1,a2,a3,a4,a5,a6] 101)) aL));have HD7:=G ((HD6.below eH).aBt EK (λr e=>by have:=lJ xX r e;constructor<;>omega));have Dl:=EK.size;simp only[aW] at Dl;have HO7:af (w7.ownsRow w2 101 7 (O A7 (l.length+1) c7) (l++ [mP.mk a0 a1 a2 a3 a4 a5 a6]).length (EJ (l++ [mP.mk a0 a1 a2 a3 a4 a5 a6]))):=(by show World.ownsRow _ _ _ _ _ _ _;rw[eB,aBr];exact Kn);clear Kn EK aaQ eH fF));exact⟨⟨j+1,l++ [mP.mk a0 a1 a2 a3 a4 a5 a6],bR,I,G5,HO7,HK7,HD7,jk,Gt,I⟩,bW⟩
  go_wp2_with fail;exact⟨⟨i2+1,l,bR,I,I,lU,yP,DD,nQ⟩,bW⟩
 go_wp2_with fail;go_ret2;exact⟨_,l,0,rfl,λ_=>⟨I,Kv lU I⟩,nQ⟩
def zR(P:Prop)(w:Y)(e:Ending)(w':Y):Prop:=∃b:Bool,e=aI b/\(b=Z->P)/\aj w w w'
theorem zR.no{P:Prop}(hb:aj w w w'):zR P w (aI X) w':=⟨X,rfl,(λh=>by cases h),hb⟩
def Yk(g:gm):Prop:=g.nc<=60/\g.ne<=14/\∀x∈g.dS,x.nc<=40/\x.nl<=60
theorem aBC(g:gm)(B:Nat)(w:Y)(hg:zC w B g)(hB:B<=w.heap.size):aF aa 58 #[aD (dx g)] w (zR (Yk g) w):=by
 obtain⟨j0,j1,j2,j3,j4,j6,j5⟩:=Jg g;have bV:=Cw g;have C8:=G (Oc hg.en);have ED:=G hg.en;have dI:=G hg.ok;have aY:=hg.ne;have hcl:=hg.ch.le;clear hg j1 j2 j3 j6;have HY:af (∀(b:Bool) (w':Y),g.nc<=60->g.ne<=14->(∀j,j<g.ne->(g.dS.getD j ay).nc<=40/\(g.dS.getD j ay).nl<=60)->aj w w w'->zR (Yk g) w (aI b) w'):=by show ∀_,_;intro b w' h1 h2 h3 hb;refine⟨b,rfl,λ_=>⟨h1,h2,λx hx=>?_⟩,hb⟩;obtain⟨j,hj,rfl⟩:=List.mem_iff_getElem.1 hx;have:=h3 j (by rw[<-C8.E];exact hj);simpa[dO,hj] using this
 generalize Q4:dx g=GC at*;clear Q4;have aP:=G (bJ (bQ w) (ag GC 29));have HX:=G (ai.new w 29 GC);have nX:=(HX.cell 20).trans j5;go_enter func58,ntmps58;go_wp2_with fail;go_loopw [3] (λi wr=>∃k:Nat,i=C D k/\k<=g.ne/\(∀j,j<k->(g.dS.getD j ay).nc<=40/\(g.dS.getD j ay).nl<=60)/\aj w w wr/\ai wr w 29 GC) (λi _=>g.ne-(intOf i).toNat);case atStart=>exact⟨0,rfl,I,(λj hj=>by omega),aP,HX⟩
 obtain⟨k,rfl,hk,hd,aH,fq⟩:=hrel;obtain⟨wo,rfl⟩:=dz wr;have HD:=G hd;have BP:=G fq;have bA:=G aH;have LM:=fq.lt;have g20:=(fq.cell 20).trans j5;clear hd nX;by_cases aO:k<g.ne
 ·have k3:decide ((k:Int)<(g.ne:Int))=Z:=by rw[decide_eq_true_eq];omega
  have b15:(k:Int)<(g.ne:Int):=I;obtain⟨ad,hA,jM,c0,c1,c2,c3,c4⟩:=(ED.fV hB (aC _) aH).Ta aO;have OO:=G (dI (g.dS.getD k ay) (by simp[dO,show k<g.dS.length by rw[C8.E];exact aO]));have HN:af ((g.dS.getD k ay).nc<=40->(g.dS.getD k ay).nl<=60->∀j,j<k+1->(g.dS.getD j ay).nc<=40/\(g.dS.getD j ay).nl<=60):=λh h' j hj=>by
   rcases jl j k with h1|h1;·exact HD j h1
   obtain rfl:j=k:=by omega
   exact⟨h,h'⟩
  rw[hA] at g20;clear fq aH hA;generalize g.dS.getD k ay=x at*;obtain⟨nm,xu,Xc,xn,xc,Oh,Al,nl,cl,ls,jt⟩:=x;have sW:=OO.ch.le;have BO:=OO.li.le;have yx:=OO.nm;have hul:=OO.cu;simp only[] at c0 c1 c2 c3 c4 HN sW BO yx hul;have dE:=G (bJ bA (ag #[nm,xu,O Xc xn xc,O Al nl cl,jt] 161));have zH:=G (BP.alloc (ag #[nm,xu,O Xc xn xc,O Al nl cl,jt] 161));by_cases h40:xn<=40;case neg=>have d1:decide ((40:Int)<(xn:Int))=Z:=jO;go_wp2_with fail;go_ret;exact zR.no dE
  have d1:decide ((40:Int)<(xn:Int))=X:=fI;by_cases Yl:nl<=60;case neg=>have d2:decide ((60:Int)<(nl:Int))=Z:=jO;go_wp2_with fail;go_ret;exact zR.no dE
  have d2:decide ((60:Int)<(nl:Int))=X:=fI;have F:=G (HN h40 Yl);clear HN;go_wp2_with fail;all_goals(first
   |exact⟨⟨k+1,bR,I,F,dE,zH⟩,bW⟩
   |(go_ret;exact zR.no dE))
 have k3:decide ((k:Int)<(g.ne:Int))=X:=by rw[decide_eq_false_iff_not];omega
 obtain rfl:k=g.ne:=I;have g0:=(fq.cell 0).trans j0;have g4:=(fq.cell 4).trans j4;clear fq;by_cases Yl:g.nc<=60;case neg=>have d1:decide ((g.nc:Int)<=60)=X:=fI;go_wp2_with fail;go_ret;exact zR.no aH
 have d1:decide ((g.nc:Int)<=60)=Z:=jO;by_cases h14:g.ne<=14;case neg=>have d2:decide ((g.ne:Int)<=14)=X:=fI;go_wp2_with fail;go_ret;exact zR.no aH
 have d2:decide ((g.ne:Int)<=14)=Z:=jO;go_wp2_with fail;all_goals(go_ret;exact HY _ _ Yl h14 HD aH)
structure aeL(W:Y)(B:Nat)(x:gV):Prop where
 rd:Reads W B 3 x.A x.n (x.ls.flatMap xY)
 le:x.n<=9223372036854775807
 cap:x.n<=x.c
 tx:x.text.length<=9223372036854775807
 id:fU x.id
 of:fU x.of
 da:fU x.date
structure Jk(W:Y)(B:Nat)(b:jY):Prop where
 gr:zC W B b.g
 rr:Reads W B 4 b.Ar b.nr (b.rs.flatMap pR)
 rl:b.nr<=9223372036854775807
 rc:b.nr<=b.cr
 rk:∀x∈b.rs,XQ x
 er:Reads W B 7 b.Ax b.nx (b.xs.flatMap qp)
 el:b.nx<=9223372036854775807
 ec:b.nx<=b.cx
 ek:∀x∈b.xs,aeL W B x
def abd(xs:List gV)(n:Nat):Prop:=n<=61/\∀x∈xs,x.n<=60
theorem Jk.ok{b:jY}(h:Jk W B b)(hg:Yk b.g)(he:abd b.xs b.nx)(hr:b.nr<=300):Cy W B b:=⟨⟨h.gr,by have:=hg.1;omega,λx hx=>by have:=(hg.2.2 x hx).1;omega,λx hx=>by have:=(hg.2.2 x hx).2;omega⟩,by have:=hg.2.1;omega,⟨h.rr,I,h.rc,h.rk⟩,⟨h.er,by have:=he.1;omega,h.ec,λx hx=>⟨(h.ek x hx).rd,by have:=he.2 x hx;omega,(h.ek x hx).cap,(h.ek x hx).tx,(h.ek x hx).id,(h.ek x hx).of⟩⟩,by have:=he.1;omega,λx hx=>(h.ek x hx).da⟩
theorem aBD(b:jY)(B:Nat)(w:Y)(hr:Jk w B b)(hB:B<=w.heap.size):aF aa 18 #[aD (dx b.g),O b.Ax b.nx b.cx] w (zR (Yk b.g/\abd b.xs b.nx) w):=by
 have bV:=Cw b.g;have HW:af (∀W:Y,aj w w W->_):=λW hW=>aBC b.g B W (hr.gr.low hB (aC _) hW) lI;have sW:b.xs.length=b.nx:=XO hr.er;have HER:=G hr.er;have HEK:=G hr.ek;have yF:=hr.el;clear hr;generalize Q4:dx b.g=GC at*;clear Q4;have aT:=bJ (bQ w) (ag GC 29);have aP:=G aT;have HX:=G (ai.new w 29 GC);have jg:=G (HER.fV hB (aC _) aT);have lY:=aT.size;clear aT;go_enter func18,ntmps18;go_wp2_with fail;generalize w.alloc (ag GC 29)=W0 at*;go_loopw [5] (λiv wr=>wr=W0/\∃k:Nat,iv=C D k/\k<=b.nx/\k<=61/\∀j,j<k->(b.xs.getD j ay).n<=60) (λiv _=>b.nx-(intOf iv).toNat);case atStart=>exact⟨rfl,0,rfl,I,I,λj hj=>by omega⟩
 obtain⟨rfl,k,rfl,hk,aBE,hd⟩:=hrel;have HD:=G hd;clear hd;by_cases aO:k<b.nx
 ·have k3:decide ((k:Int)<(b.nx:Int))=Z:=by rw[decide_eq_true_eq];omega
  have b3:(k:Int)<(b.nx:Int):=I;obtain⟨ad,hA,_,c0,c1,c2,c3,c4,c5,c6⟩:=jg.XP aO;have OO:=G (HEK (b.xs.getD k ay) (by simp[dO,show k<b.xs.length by omega]));have HN:af ((b.xs.getD k ay).n<=60->∀j,j<k+1->(b.xs.getD j ay).n<=60):=λh j hj=>by
   rcases jl j k with h1|h1;·exact HD j h1
   obtain rfl:j=k:=by omega
   exact h
  have hlr:=OO.rd.fV hB (aC _) aP;have HLR:=G hlr;have Tn:=OO.le;have hxt:=OO.tx;clear hlr;rw[hA];generalize b.xs.getD k ay=x at*;obtain⟨z0,z1,z2,z3,z4,z5,z6,z7,z8,z9⟩:=x;simp only[] at c0 c1 c2 c3 c4 c5 c6 HN HLR Tn hxt;by_cases Yl:z7<=60;case neg=>have d1:decide ((60:Int)<(z7:Int))=Z:=jO;go_wp2_with fail;go_ret;exact zR.no aP
  have d1:decide ((60:Int)<(z7:Int))=X:=fI;by_cases WH:z5.length<=200;case neg=>have d2:decide ((200:Int)<(z5.length:Int))=Z:=jO;go_wp2_with fail;all_goals(go_ret;exact zR.no aP)
  have d2:decide ((200:Int)<(z5.length:Int))=X:=fI;by_cases h61:k<=60;case neg=>have d3:decide ((60:Int)<(k:Int))=Z:=jO;go_wp2_with fail;all_goals(go_ret;exact zR.no aP)
  have d3:decide ((60:Int)<(k:Int))=X:=fI;have F:=G (HN Yl);clear HN;go_wp2_with fail;go_loopw [6] (λjv wr'=>wr'=wr/\∃j:Nat,jv=C D j/\j<=z7) (λjv _=>z7-(intOf jv).toNat);case atStart=>exact⟨rfl,0,rfl,I⟩
  obtain⟨rfl,j,rfl,hj⟩:=hrel;by_cases vC:j<z7
  ·have b5:(j:Int)<(z7:Int):=by omega
   obtain⟨al,hAl,_,e0,e1,e2⟩:=HLR.QZ vC;subst hAl;generalize z9.getD j ay=y at*;obtain⟨y0,y1,y2⟩:=y;simp only[] at e0 e1 e2;go_wp2_with fail;all_goals(first
    |exact⟨⟨trivial,j+1,bR,I⟩,bW⟩
    |(go_ret;exact zR.no aP))
  go_wp2_with fail;exact⟨⟨trivial,k+1,bR,I,I,F⟩,bW⟩
 have k3:decide ((k:Int)<(b.nx:Int))=X:=by rw[decide_eq_false_iff_not];omega
 obtain rfl:k=b.nx:=I;have HE:af (abd b.xs b.nx):=⟨aBE,λx hx=>by obtain⟨j,hj,rfl⟩:=List.mem_iff_getElem.1 hx;have:=HD j I;simpa[dO,hj] using this⟩;go_wp2_with(refine vO iN _ rfl _ rfl _ bV HX ?_);refine(HW _ aP).mono ?_;rintro e w2 ⟨v,rfl,hv,aJ⟩;have HV:=G hv;have aS:=G (bS aJ aP);clear hv aJ;go_wp2_with fail;go_ret;exact⟨v,rfl,λh=>⟨HV h,HE⟩,aS⟩
theorem aBF(b:jY)(B:Nat)(w:Y)(hr:Jk w B b)(hB:B<=w.heap.size):aF aa 5 #[aD (mJ b)] w (zR (Cy w B b) w):=by
 obtain⟨j0,j1,j2,j3,KA,OL,OM⟩:=aa7 b;have yU:(dx b.g).size=21:=rfl;have zw:=aeH (ai.new w 36 (mJ b));have dI:af (Yk b.g/\abd b.xs b.nx->b.nr<=300->Cy w B b):=λh1 h2=>hr.ok h1.1 h1.2 h2;have hrl:=hr.rl;have aT:=bJ (bQ w) (ag (mJ b) 36);have HW:=G (aBD b B (w.alloc (ag (mJ b) 36)) ⟨hr.gr.low hB (aC _) aT,hr.rr.fV hB (aC _) aT,hr.rl,hr.rc,hr.rk,hr.er.fV hB (aC _) aT,hr.el,hr.ec,λx hx=>⟨(hr.ek x hx).rd.fV hB (aC _) aT,(hr.ek x hx).le,(hr.ek x hx).cap,(hr.ek x hx).tx,(hr.ek x hx).id,(hr.ek x hx).of,(hr.ek x hx).da⟩⟩ (by have:=aT.size;omega));have HX:=G (ai.new w 36 (mJ b));clear hr j0 j1 j2 j3 KA;generalize mJ b=BC at*;have Yh:=(HX.cell 21).trans OL;go_enter func5,ntmps5;go_wp2_with(refine wpList_load_mid iN 29 _ rfl w.heap.size 0 rfl (dx b.g).toList _ zw underlying29 rfl (by rw[JA,Mx,yU]) ?_;rw[Bl]);refine HW.mono ?_;rintro e w1 ⟨v,rfl,hv,aB⟩;have HV:=G hv;have aM:=G (bS aB aT);have hX1:=HX.below aB aG;have zP:=(hX1.cell 22).trans OM;clear hv aB aT Yh zw hX1;cases v;·go_wp2_with fail;go_ret;exact zR.no aM
 by_cases h3:b.nr<=300
 ·have k3:decide ((b.nr:Int)<=300)=Z:=by rw[decide_eq_true_eq];omega
  go_wp2_with fail;go_ret;exact⟨Z,rfl,λ_=>dI (HV KL) h3,aM⟩
 have k3:decide ((b.nr:Int)<=300)=X:=by rw[decide_eq_false_iff_not];omega
 go_wp2_with fail;go_ret;exact zR.no aM
def Jn(w:Y)(T:bM)(Pk:ak->Prop)(v:ak):Prop:=∀g,v.ownBlock=N g->∀cur,w.heap[g]?=N (ag cur T (0,0))->∀u∈cur.toList,Pk u
theorem anj{z:Array ak}{Pk:ak->Prop}(h:∀u∈z.toList,Pk u)(hz:0<z.size)(n:Nat):∀u∈(Builtin.zeroCells z n).toList,Pk u:=by intro u hu;unfold Builtin.zeroCells at hu;rw[Array.toList_map] at hu;obtain⟨i,_,rfl⟩:=qw.1 hu;have aO:i%z.size<z.size:=EF _ hz;rw[getElem!_pos z (i%z.size) aO];exact h _ aG
section
variable{P:Program}(w:Y){Pk:ak->Prop}
theorem aBP(base:Nat)(t ty e:bM)(i:TypeInfo)(z:ak)(ht:P.underlying t=N (.slice e))(hi:P.info? e=N i)(hz:i.zero=N z)(DU:z.cells.size=i.size)(bV:0<i.size)
  (v:ak) (n:Nat) (xs:List ak) (aV:w.ownsRow base e i.size v n xs) (a:aK) (m c:Nat) (ko:List ak) (hl:ko.length=m*i.size) (hnews:∀j u,ko[j]?=N u->w.cell? (a.add j)=N u) (h1:∀u∈ko,u.oneCell'=Z)
  (h0:0<m) (Fg:n+m<=maxLen) (DV:(n+m)*i.bytes<=140737488355328) (hk:Jn w e Pk v) (hkz:∀u∈z.cells.toList,Pk u) (iR:∀u∈ko,Pk u)
  (v':ak) (w':Y) (gu:(Builtin.append_ #[t,t] ty #[v,O (N a) m c]).run P w= .ok v' w'):Jn w' e Pk v':=by
 have hsmall:n+m<=9223372036854775807:=by simp only[maxLen] at Fg;omega
 rcases aV.2 with⟨rfl,rfl⟩|⟨g,cap,cur,rfl,hbg,hg,DT,hcm,ql,htake⟩
 ·have hr:=run_append_nil (P:=P) w t ty e i z ht hi hz a m c ko hl hnews I I (by have hb:=DV;simp only[Nat.zero_add] at hb;omega);rw[hr] at gu;injection gu with e1 e2;subst e1 e2;intro g hg cur hc u hu;injection hg with hg;have sO:N (Obj.cells (ko.toArray++Builtin.zeroCells z.cells (grownCap w m 0 e-m)) e)=N (ag cur e (0,0)):=by rw[<-hc,<-hg];exact(heap_alloc_new w.drew _).symm
  injection sO with sO;injection sO with sO;rw[<-sO,Array.toList_append,pW] at hu;rcases hu with hu|hu;·exact iR u (by simpa using hu)
  exact anj hkz (by rw[DU];exact bV) _ u hu
 have hold:∀u∈cur.toList,Pk u:=hk g rfl cur hg;by_cases hroom:n+m<=cap
 ·have hfit:n*i.size+ko.length<=cur.size:=by rw[hl,ql,<-Nat.add_mul];exact Nat.mul_le_mul_right _ hroom
  have hr:=run_append_room (P:=P) w t ty e i ht hi g n cap cur hg a m c ko hl hnews h1 hroom hfit;rw[hr] at gu;injection gu with e1 e2;subst e1 e2;intro g' Gh cur' hc u hu;have Cf:g=g':=by simpa[Hd] using Gh
  subst Cf;rw[setRow_heap w g cur _ e _ hg] at hc;injection hc with hc;injection hc with hc;rw[<-hc] at hu;simp only[pW] at hu;rcases hu with(hu|hu)|hu;·exact hold u (List.mem_of_mem_take hu)
  ·exact iR u hu
  exact hold u (List.mem_of_mem_drop hu)
 have holds:∀j u,xs[j]?=N u->w.cell? ((⟨g,0,J⟩:aK).add j)=N u:=aV.cells (g:=g) rfl;have hr:=run_append_grow (P:=P) w t ty e i z ht hi hz ⟨g,0,J⟩ n cap xs aV.1 holds a m c ko hl hnews I I (growslice_fits I DV);rw[hr] at gu;injection gu with e1 e2;subst e1 e2;intro g' Gh cur' hc u hu;have Cf:w.heap.size=g':=by simpa[Hd] using Gh
 subst Cf;have sO:=(heap_alloc_new w.drew (ag (xs.toArray++ko.toArray++Builtin.zeroCells z.cells (grownCap w (n+m) cap e-(n+m))) e)).symm.trans hc;injection sO with sO;injection sO with sO;rw[<-sO,Array.toList_append,Array.toList_append,pW,pW] at hu;rcases hu with(hu|hu)|hu;·exact hold u (by rw[<-htake] at hu;exact List.mem_of_mem_take (by simpa using hu))
 ·exact iR u (by simpa using hu)
 exact anj hkz (by rw[DU];exact bV) _ u hu
theorem aBQ{a:Act}(Ff:o.guard=J)(s x:Operand)(t:bM)
  (ho:o.op= .call {callee:= .builtin .append,args:=#[s,x],argTypes:=#[t,t]})
  (base:Nat) (e:bM) (i:TypeInfo) (z:ak) (size bytes:Nat) (ht:P.underlying t=N (.slice e)) (hi:P.info? e=N i) (hz:i.zero=N z)
  (hsize:i.size=size) (Bq:i.bytes=bytes) (DU:z.cells.size=size) (bV:0<size)
  (v:ak) (n:Nat) (xs:List ak) (hs:a.eval s=v) (aV:w.ownsRow base e size v n xs)
  (ad:aK) (m c:Nat) (ko:List ak) (hx:a.eval x=O (N ad) m c) (hl:ko.length=m*size) (hnews:∀j u,ko[j]?=N u->w.cell? (ad.add j)=N u) (h1:∀u∈ko,u.oneCell'=Z)
  (h0:0<m) (Fg:n+m<=maxLen) (DV:(n+m)*bytes<=140737488355328) (hbase:base<=w.heap.size)
  (hk:Jn w e Pk v) (hkz:∀u∈z.cells.toList,Pk u) (iR:∀u∈ko,Pk u)
  (h:∀v' w',w'.ownsRow base e size v' (n+m) (xs++ko)->w.grownBy w' v.ownBlock->Jn w' e Pk v'->wpList P ops Q rest (a.put o.dst v') w'):wpList P ops Q (o::rest) a w:=wpList_plain Ff λK hK=>by subst hsize;subst Bq;obtain⟨v',w',hr,h2,h3,_⟩:=run_append_own (P:=P) w base t o.type e i z i.size i.bytes ht hi hz rfl rfl DU bV v n xs aV ad m c ko hl hnews h1 Fg DV hbase;have iV:=aBP w base t o.type e i z ht hi hz DU bV v n xs aV ad m c ko hl hnews h1 h0 Fg DV hk hkz iR v' w' hr;unfold yt execOp;simp only[ho,resolve,invoke,builtin,Sem.run_bind,Sem.run_pure,Result.andThen_ok,List.map_toArray,kE,List.map_nil,hs,hx,hr];exact hK _ _ (h v' w' h2 h3 iV)
end
def UB(v:ak):Prop:=∀x,v≠C .u32 x
theorem bT.grow{neg dV:ak}{z:Int}(h:bT w B neg dV z)(hB:B<=w.heap.size)(ho:w.ownsRow base T S v n xs)(hk:Jn w T UB v)(hg:w.grownBy w' v.ownBlock):bT w' B neg dV z:=by
 obtain⟨e,l,⟨A,n1,c,e2,h1,h2,h3,h4⟩,h5⟩:=h;refine⟨e,l,⟨A,n1,c,e2,h1,h2,h3,⟨h4.1,λhn=>?_⟩⟩,h5⟩;obtain⟨ad,hA,hb,hc⟩:=h4.2 hn;refine⟨ad,hA,hb,λj u hu=>?_⟩;have Oi:=hc j u hu;have hblk:(ad.add j).block=ad.block:=by unfold Addr.add;split<;>rfl
 by_cases hq:N ad.block=v.ownBlock
 ·exfalso;obtain⟨x,_,rfl⟩:=qw.1 (Jr hu);rcases ho.2 with⟨rfl,_⟩|⟨g,cap,cur,rfl,_,hh,_⟩;·cases hq
  have iL:ad.block=g:=by simpa[Hd] using hq
  simp only[M6,hblk,iL,hh] at Oi;split at Oi;·cases Oi
  exact hk g rfl cur hh _ (Array.mem_toList_iff.2 (Array.mem_of_getElem? Oi)) _ rfl
 rw[<-Oi];have:=hg.block ad.block I hq;simp only[M6,hblk,this]
theorem ank(a:Int)(b c d:Bool)(A:Option aK)(n k:Nat)(A2:Option aK)(n2 k2:Nat)(A3:Option aK)(n3 k3:Nat):∀u∈([C D a,ax b,ax c,O A n k,ax d,O A2 n2 k2,O A3 n3 k3]:List ak),UB u:=by intro u hu x;simp only[jZ,nJ,or_false] at hu;rcases hu with rfl|rfl|rfl|rfl|rfl|rfl|rfl<;>(intro h;cases h)
theorem aBR(a:Int)(b c d:Bool)(A:Option aK)(n k:Nat)(A2:Option aK)(n2 k2:Nat)(A3:Option aK)(n3 k3:Nat):∀u∈([C D a,ax b,ax c,O A n k,ax d,O A2 n2 k2,O A3 n3 k3]:List ak),u.oneCell'=Z:=by intro u hu;exact aeK
structure zS(w:Y)(base:Nat)(m:gF):Prop where
 a:bT w w m.nn m.nm m.s.sa
 b:bT w w m.dn m.dm m.s.sb
 b0:0<m.s.sb
 b1:m.s.sb<=1000
 a1:m.s.sa.natAbs<=1000
 il:m.s.items.length<=1000000000000
 io:w.ownsRow base 101 7 m.it m.s.items.length (EJ m.s.items)
theorem zS.below{m:gF}(h:zS w base m)(hb:aj w w w'):zS w' base m:=⟨(h.a.keep (λq hq=>hb.cell hq)).more hb.size,(h.b.keep (λq hq=>hb.cell hq)).more hb.size,h.b0,h.b1,h.a1,h.il,own_below h.io hb⟩
theorem zS.grow{base':Nat}{m:gF}(h:zS w base m)(ho:w.ownsRow base' 52 S v n xs)(hk:Jn w 52 UB v)(hg:w.grownBy w' v.ownBlock):zS w' base m:=⟨(h.a.grow (aC _) ho hk hg).more hg.size,(h.b.grow (aC _) ho hk hg).more hg.size,h.b0,h.b1,h.a1,h.il,h.io.kept hg (aa2 h.io ho aL)⟩
theorem zS.ok{m:gF}(h:zS w base m):m.ok w w.heap.size:=by obtain⟨A,c,he⟩:=eO h.io;refine⟨h.a,h.b,h.b0,h.b1,h.a1,A,_,c,he,rfl,h.il,?_⟩;have:=h.io;rw[he] at this;exact Reads.uA this
theorem Jn.below{Pk:ak->Prop}(h:Jn w T Pk v)(ho:w.ownsRow base T S v n xs)(hb:aj w w w'):Jn w' T Pk v:=λg hg cur hc u hu=>by
 rcases ho.2 with⟨rfl,_⟩|⟨g',cap,cur',rfl,_,hh,_⟩;·cases hg
 ·have iL:g'=g:=by simpa[Hd] using hg
  subst iL;rw[hb.block g' (ai.lt hh)] at hc;exact h g' rfl cur hc u hu
section
open Go.ChangeShapes Go.WideShapes Go.Deep
section
variable{H:Type}{enc:bM × ak->H}{P:Program}{w:Y}{base:Nat}{spare:Nat->Bool}{held:Bool}
theorem aCb{T:Type}(row:T->List ak)(hS:0<S)(iF:∀t,(row t).length=S):∀(ts:List T) (q:Nat) (u:ak),(ts.flatMap row)[q]?=N u->∃t,ts[q/S]?=N t/\(row t)[q%S]?=N u:=by
 intro ts;induction ts with
 |nil=>intro q u h;simp at h
 |cons t r ih=>
  intro q u h;rw[Hq] at h;by_cases hq:q<S;·rw[List.getElem?_append_left (by rw[iF];exact hq)] at h;rw[Nat.div_eq_of_lt hq,Nat.mod_eq_of_lt hq];exact⟨t,rfl,h⟩
  rw[List.getElem?_append_right (by rw[iF];omega),iF] at h;obtain⟨t',h1,h2⟩:=ih _ _ h;have e1:q/S=(q-S)/S+1:=by rw[Nat.div_eq_sub_div hS I]
  have e2:q%S=(q-S)%S:=(Nat.mod_eq_sub_mod I);rw[e1,e2];exact⟨t',MU,h2⟩
end
end
section
open Go.ChangeShapes Go.WideShapes Go.Deep
section
variable{H:Type}{enc:bM × ak->H}{P:Program}{w:Y}{base:Nat}{spare:Nat->Bool}{held:Bool}
end
end
section
open Go.ChangeShapes Go.WideShapes Go.Deep
section
variable{H:Type}{enc:bM × ak->H}{P:Program}{w:Y}{base:Nat}{spare:Nat->Bool}{held:Bool}
theorem UF{T:Type}[Inhabited T](row:T->List ak)(Q:T->Prop){oO:Nat}{cs:List ak}{x:wm H × List Af}
  (ht:P.underlying t=N (.slice e)) (hC:P.cellsOf e=S) (hS:0<S) (iF:∀t,(row t).length=S)
  (dec:∀(n:Nat) (cs:List ak) (y:wm H × List Af),bP enc P w base spare held n e cs=N y->cs.length=S->∃t,cs=row t/\Q t)
  (hf:bP enc P w base spare held oO t cs=N x):
  ∃(A:Option aK) (n c:Nat) (ts:List T),cs= [O A n c]/\Reads w w S A n (ts.flatMap row)/\(∀t∈ts,Q t)/\ts.length=n/\n<=9223372036854775807/\n<=c:=by
 rcases open_slice ht hf with⟨ql,_⟩|⟨a,len,cap,m,n,bf,Pl,ql,_,hl,hm,zx,_,hi⟩;·exact⟨J,0,0,[],ql,Reads.none_,aG,rfl,I,I⟩
 unfold maxLen at hm;have KH:len<=m:=by rw[zx];split<;>omega
 have ex:∀i,i<len->∃t,Q t/\∀j u,(row t)[j]?=N u->w.cell? (a.add (i*S+j))=N u:=by
  intro i rP;obtain⟨cs',hc,hk⟩:=hi i I;rw[hC] at hc;obtain⟨_,hcl,yG⟩:=World.cells?_some hc;obtain⟨t,rfl,hq⟩:=dec _ _ _ hk hcl;refine⟨t,hq,λj u hu=>?_⟩;have oN:j<S:=by
   rcases jl j S with h|h;·exact h
   rw[Ot (by rw[iF];exact h)] at hu;cases hu
  rw[<-Go.Deep.add_add,yG j oN,hu]
 obtain⟨f,tT⟩:∃f:Nat->T,∀i,i<len->Q (f i)/\∀j u,(row (f i))[j]?=N u->w.cell? (a.add (i*S+j))=N u:=by refine⟨λi=>if h:i<len then Classical.choose (ex i h) else ay,λi rP=>?_⟩;simp only[dif_pos rP];exact Classical.choose_spec (ex i rP)
 refine⟨N a,len,cap,(rQ len).map f,ql,⟨?_,λhn=>⟨a,rfl,?_,λq u hq=>?_⟩⟩,?_,aG,I,hl⟩
 ·have:∀l:List Nat,((l.map f).flatMap row).length=l.length*S:=by
   intro l
   induction l with
   |nil=>simp
   |cons x r ih=>simp only[kE,Hq,eB,iP,ih,iF];rw[Nat.add_mul];omega
  rw[this];simp
 ·have h0:=(tT 0 hn).2 0 ((row (f 0))[0]'(by rw[iF];exact hS)) (wu _);have:=block_lt h0;rwa [zX] at this
 ·obtain⟨t,h1,h2⟩:=aCb row hS iF _ _ _ hq;rw[xy] at h1;have hd:q/S<len:=by
   rcases jl (q/S) len with h|h;·exact h
   rw[Ot CB] at h1;cases h1
  rw[List.getElem?_range hd] at h1;obtain rfl:f (q/S)=t:=MU;have:=(tT _ hd).2 _ _ h2;rwa [L8,Nat.div_add_mod] at this
 intro t ht;obtain⟨i,hi1,rfl⟩:=qw.1 ht;exact(tT i (List.mem_range.1 hi1)).1
end
section
variable{H:Type}{enc:bM × ak->H}{W:Y}{base:Nat}{spare:Nat->Bool}{held:Bool}
theorem lV:aa.cellsOf 3=1:=by kernel_rfl
theorem Yq:aa.cellsOf 9=1:=by kernel_rfl
theorem cBG:aa.cellsOf 4=1:=by kernel_rfl
theorem anv:aa.cellsOf 78=4:=by kernel_rfl
theorem anw:aa.cellsOf 226=3:=by kernel_rfl
theorem anx:aa.cellsOf 161=5:=by kernel_rfl
theorem anz:aa.cellsOf 23=3:=by kernel_rfl
theorem anA:aa.cellsOf 26=15:=by kernel_rfl
theorem anB:aa.cellsOf 24=1:=by kernel_rfl
theorem aCc:aa.cellsOf 159=1:=by kernel_rfl
theorem aCd:aa.cellsOf 27=1:=by kernel_rfl
theorem anC:aa.cellsOf 29=21:=by kernel_rfl
theorem Yr{s:ByteArray}(h:s.size<=maxLen):s.data.toList.length<=9223372036854775807:=by rw[Mx];exact h
theorem aCe{cs:List ak}{y:wm H × List Af}(h:bP enc aa W base spare held n 78 cs=N y):∃x:bE,cs=IE x/\Dh x:=by
 obtain⟨xs,m,_,_,bH,sW,hf⟩:=MG underlying78 h;rw[anv] at bH;match cs,bH with
 | [c0,c1,c2,c3],_=>
  match xs,sW with
  | [y0,y1,y2,y3],_=>have k0:bP enc aa W base spare held m 3 (([c0,c1,c2,c3].drop 0).take (aa.cellsOf 3))=N y0:=hf 0 _ rfl;rw[lV] at k0;replace k0:bP enc aa W base spare held m 3 [c0]=N y0:=k0;have k1:bP enc aa W base spare held m 3 (([c0,c1,c2,c3].drop 1).take (aa.cellsOf 3))=N y1:=hf 1 _ rfl;rw[lV] at k1;replace k1:bP enc aa W base spare held m 3 [c1]=N y1:=k1;have k2:bP enc aa W base spare held m 3 (([c0,c1,c2,c3].drop 2).take (aa.cellsOf 3))=N y2:=hf 2 _ rfl;rw[lV] at k2;replace k2:bP enc aa W base spare held m 3 [c2]=N y2:=k2;have k3:bP enc aa W base spare held m 3 (([c0,c1,c2,c3].drop 3).take (aa.cellsOf 3))=N y3:=hf 3 _ rfl;rw[lV] at k3;replace k3:bP enc aa W base spare held m 3 [c3]=N y3:=k3;obtain⟨x0,e0,_,z0⟩:=l9 underlying3 k0;obtain⟨x1,e1,_,z1⟩:=l9 underlying3 k1;obtain⟨x2,e2,_,z2⟩:=l9 underlying3 k2;obtain⟨x3,e3,_,z3⟩:=l9 underlying3 k3;simp only[F6,and_true] at e0 e1 e2 e3;subst e0 e1 e2 e3;exact⟨⟨x0,x1,x2,x3⟩,rfl,z0,z1,z2,z3⟩
theorem aCf{cs:List ak}{y:wm H × List Af}(h:bP enc aa W base spare held n 226 cs=N y):∃x:ib,cs=IG x/\Od x:=by
 obtain⟨xs,m,_,_,bH,sW,hf⟩:=MG underlying226 h;rw[anw] at bH;match cs,bH with
 | [c0,c1,c2],_=>
  match xs,sW with
  | [y0,y1,y2],_=>have k0:bP enc aa W base spare held m 3 (([c0,c1,c2].drop 0).take (aa.cellsOf 3))=N y0:=hf 0 _ rfl;rw[lV] at k0;replace k0:bP enc aa W base spare held m 3 [c0]=N y0:=k0;have k1:bP enc aa W base spare held m 3 (([c0,c1,c2].drop 1).take (aa.cellsOf 3))=N y1:=hf 1 _ rfl;rw[lV] at k1;replace k1:bP enc aa W base spare held m 3 [c1]=N y1:=k1;have k2:bP enc aa W base spare held m 3 (([c0,c1,c2].drop 2).take (aa.cellsOf 3))=N y2:=hf 2 _ rfl;rw[lV] at k2;replace k2:bP enc aa W base spare held m 3 [c2]=N y2:=k2;obtain⟨x0,e0,_,z0⟩:=l9 underlying3 k0;obtain⟨x1,e1,_,z1⟩:=l9 underlying3 k1;obtain⟨x2,e2,_,z2⟩:=l9 underlying3 k2;simp only[F6,and_true] at e0 e1 e2;subst e0 e1 e2;exact⟨⟨x0,x1,x2⟩,rfl,z0,z1,z2⟩
theorem anD{cs:List ak}{y:wm H × List Af}(h:bP enc aa W base spare held n 24 cs=N y):∃(A:Option aK) (n c:Nat) (l:List bE),cs= [O A n c]/\Di W W A n c l:=by obtain⟨A,nn,c,ts,e,hr,hq,_,hm,hc⟩:=UF (T:=bE) IE Dh underlying24 anv aL (λ_=>rfl) (λn cs y hk _=>aCe hk) h;exact⟨A,nn,c,ts,e,⟨hr,hm,hc,hq⟩⟩
theorem aCg{cs:List ak}{y:wm H × List Af}(h:bP enc aa W base spare held n 159 cs=N y):∃(A:Option aK) (n c:Nat) (l:List ib),cs= [O A n c]/\Ev W W A n c l:=by obtain⟨A,nn,c,ts,e,hr,hq,_,hm,hc⟩:=UF (T:=ib) IG Od underlying159 anw aL (λ_=>rfl) (λn cs y hk _=>aCf hk) h;exact⟨A,nn,c,ts,e,⟨hr,hm,hc,hq⟩⟩
theorem aCh{cs:List ak}{y:wm H × List Af}(h:bP enc aa W base spare held n 161 cs=N y):∃x:pI,cs=Cc x/\Ce W W x:=by
 obtain⟨xs,m,_,_,bH,sW,hf⟩:=MG underlying161 h;rw[anx] at bH;match cs,bH with
 | [c0,c1,c2,c3,c4],_=>
  match xs,sW with
  | [y0,y1,y2,y3,y4],_=>have k0:bP enc aa W base spare held m 9 (([c0,c1,c2,c3,c4].drop 0).take (aa.cellsOf 9))=N y0:=hf 0 _ rfl;rw[Yq] at k0;replace k0:bP enc aa W base spare held m 9 [c0]=N y0:=k0;have k1:bP enc aa W base spare held m 9 (([c0,c1,c2,c3,c4].drop 1).take (aa.cellsOf 9))=N y1:=hf 1 _ rfl;rw[Yq] at k1;replace k1:bP enc aa W base spare held m 9 [c1]=N y1:=k1;have k2:bP enc aa W base spare held m 24 (([c0,c1,c2,c3,c4].drop 2).take (aa.cellsOf 24))=N y2:=hf 2 _ rfl;rw[anB] at k2;replace k2:bP enc aa W base spare held m 24 [c2]=N y2:=k2;have k3:bP enc aa W base spare held m 159 (([c0,c1,c2,c3,c4].drop 3).take (aa.cellsOf 159))=N y3:=hf 3 _ rfl;rw[aCc] at k3;replace k3:bP enc aa W base spare held m 159 [c3]=N y3:=k3;have k4:bP enc aa W base spare held m 4 (([c0,c1,c2,c3,c4].drop 4).take (aa.cellsOf 4))=N y4:=hf 4 _ rfl;rw[cBG] at k4;replace k4:bP enc aa W base spare held m 4 [c4]=N y4:=k4;obtain⟨x0,e0,_,z0⟩:=DataW.trod_string underlying9 k0;obtain⟨x1,e1,_,z1⟩:=DataW.trod_string underlying9 k1;obtain⟨Ac,nc,cc,lc,e2,rc⟩:=anD k2;obtain⟨Al,nl,cl,ll,e3,rl⟩:=aCg k3;obtain⟨x4,e4,_⟩:=DataW.trod_bool underlying4 k4;simp only[F6,and_true] at e0 e1 e2 e3 e4;subst e0 e1 e2 e3 e4;exact⟨⟨x0.data.toList,x1.data.toList,Ac,nc,cc,lc,Al,nl,cl,ll,x4⟩,rfl,rc,rl,Yr z0,Yr z1⟩
theorem aCi{cs:List ak}{y:wm H × List Af}(h:bP enc aa W base spare held n 23 cs=N y):∃a b c:Int,cs= [C D a,C D b,C D c]:=by
 obtain⟨xs,m,_,_,bH,sW,hf⟩:=MG underlying23 h;rw[anz] at bH;match cs,bH with
 | [c0,c1,c2],_=>
  match xs,sW with
  | [y0,y1,y2],_=>have k0:bP enc aa W base spare held m 3 (([c0,c1,c2].drop 0).take (aa.cellsOf 3))=N y0:=hf 0 _ rfl;rw[lV] at k0;replace k0:bP enc aa W base spare held m 3 [c0]=N y0:=k0;have k1:bP enc aa W base spare held m 3 (([c0,c1,c2].drop 1).take (aa.cellsOf 3))=N y1:=hf 1 _ rfl;rw[lV] at k1;replace k1:bP enc aa W base spare held m 3 [c1]=N y1:=k1;have k2:bP enc aa W base spare held m 3 (([c0,c1,c2].drop 2).take (aa.cellsOf 3))=N y2:=hf 2 _ rfl;rw[lV] at k2;replace k2:bP enc aa W base spare held m 3 [c2]=N y2:=k2;obtain⟨x0,e0,_,_⟩:=l9 underlying3 k0;obtain⟨x1,e1,_,_⟩:=l9 underlying3 k1;obtain⟨x2,e2,_,_⟩:=l9 underlying3 k2;simp only[F6,and_true] at e0 e1 e2;subst e0 e1 e2;exact⟨x0,x1,x2,rfl⟩
theorem aCj{cs:List ak}{y:wm H × List Af}(h:bP enc aa W base spare held n 26 cs=N y):∃r:N8,cs= [C D r.c0,C D r.c1,C D r.c2,C D r.c3,C D r.c4,C D r.c5,C D r.c6,C D r.c7,C D r.c8,C D r.c9,C D r.c10,C D r.c11,C D r.c12,C D r.c13,C D r.c14]/\∀x∈uO r,fU x.code:=by
 obtain⟨xs,m,_,_,bH,sW,hf⟩:=MG underlying26 h;rw[anA] at bH;match cs,bH with
 | [c0,c1,c2,c3,c4,c5,c6,c7,c8,c9,c10,c11,c12,c13,c14],_=>
  match xs,sW with
  | [y0,y1,y2,y3,y4,y5,y6,y7,y8,y9,Xv,y11,y12,y13,y14],_=>have k0:bP enc aa W base spare held m 3 (([c0,c1,c2,c3,c4,c5,c6,c7,c8,c9,c10,c11,c12,c13,c14].drop 0).take (aa.cellsOf 3))=N y0:=hf 0 _ rfl;rw[lV] at k0;replace k0:bP enc aa W base spare held m 3 [c0]=N y0:=k0;have k1:bP enc aa W base spare held m 3 (([c0,c1,c2,c3,c4,c5,c6,c7,c8,c9,c10,c11,c12,c13,c14].drop 1).take (aa.cellsOf 3))=N y1:=hf 1 _ rfl;rw[lV] at k1;replace k1:bP enc aa W base spare held m 3 [c1]=N y1:=k1;have k2:bP enc aa W base spare held m 3 (([c0,c1,c2,c3,c4,c5,c6,c7,c8,c9,c10,c11,c12,c13,c14].drop 2).take (aa.cellsOf 3))=N y2:=hf 2 _ rfl;rw[lV] at k2;replace k2:bP enc aa W base spare held m 3 [c2]=N y2:=k2;have k3:bP enc aa W base spare held m 3 (([c0,c1,c2,c3,c4,c5,c6,c7,c8,c9,c10,c11,c12,c13,c14].drop 3).take (aa.cellsOf 3))=N y3:=hf 3 _ rfl;rw[lV] at k3;replace k3:bP enc aa W base spare held m 3 [c3]=N y3:=k3;have k4:bP enc aa W base spare held m 3 (([c0,c1,c2,c3,c4,c5,c6,c7,c8,c9,c10,c11,c12,c13,c14].drop 4).take (aa.cellsOf 3))=N y4:=hf 4 _ rfl;rw[lV] at k4;replace k4:bP enc aa W base spare held m 3 [c4]=N y4:=k4;have k5:bP enc aa W base spare held m 3 (([c0,c1,c2,c3,c4,c5,c6,c7,c8,c9,c10,c11,c12,c13,c14].drop 5).take (aa.cellsOf 3))=N y5:=hf 5 _ rfl;rw[lV] at k5;replace k5:bP enc aa W base spare held m 3 [c5]=N y5:=k5;have k6:bP enc aa W base spare held m 3 (([c0,c1,c2,c3,c4,c5,c6,c7,c8,c9,c10,c11,c12,c13,c14].drop 6).take (aa.cellsOf 3))=N y6:=hf 6 _ rfl;rw[lV] at k6;replace k6:bP enc aa W base spare held m 3 [c6]=N y6:=k6;have k7:bP enc aa W base spare held m 3 (([c0,c1,c2,c3,c4,c5,c6,c7,c8,c9,c10,c11,c12,c13,c14].drop 7).take (aa.cellsOf 3))=N y7:=hf 7 _ rfl;rw[lV] at k7;replace k7:bP enc aa W base spare held m 3 [c7]=N y7:=k7;have k8:bP enc aa W base spare held m 3 (([c0,c1,c2,c3,c4,c5,c6,c7,c8,c9,c10,c11,c12,c13,c14].drop 8).take (aa.cellsOf 3))=N y8:=hf 8 _ rfl;rw[lV] at k8;replace k8:bP enc aa W base spare held m 3 [c8]=N y8:=k8;have k9:bP enc aa W base spare held m 3 (([c0,c1,c2,c3,c4,c5,c6,c7,c8,c9,c10,c11,c12,c13,c14].drop 9).take (aa.cellsOf 3))=N y9:=hf 9 _ rfl;rw[lV] at k9;replace k9:bP enc aa W base spare held m 3 [c9]=N y9:=k9;have k10:bP enc aa W base spare held m 3 (([c0,c1,c2,c3,c4,c5,c6,c7,c8,c9,c10,c11,c12,c13,c14].drop 10).take (aa.cellsOf 3))=N Xv:=hf 10 _ rfl;rw[lV] at k10;replace k10:bP enc aa W base spare held m 3 [c10]=N Xv:=k10;have k11:bP enc aa W base spare held m 3 (([c0,c1,c2,c3,c4,c5,c6,c7,c8,c9,c10,c11,c12,c13,c14].drop 11).take (aa.cellsOf 3))=N y11:=hf 11 _ rfl;rw[lV] at k11;replace k11:bP enc aa W base spare held m 3 [c11]=N y11:=k11;have k12:bP enc aa W base spare held m 3 (([c0,c1,c2,c3,c4,c5,c6,c7,c8,c9,c10,c11,c12,c13,c14].drop 12).take (aa.cellsOf 3))=N y12:=hf 12 _ rfl;rw[lV] at k12;replace k12:bP enc aa W base spare held m 3 [c12]=N y12:=k12;have k13:bP enc aa W base spare held m 3 (([c0,c1,c2,c3,c4,c5,c6,c7,c8,c9,c10,c11,c12,c13,c14].drop 13).take (aa.cellsOf 3))=N y13:=hf 13 _ rfl;rw[lV] at k13;replace k13:bP enc aa W base spare held m 3 [c13]=N y13:=k13;have k14:bP enc aa W base spare held m 3 (([c0,c1,c2,c3,c4,c5,c6,c7,c8,c9,c10,c11,c12,c13,c14].drop 14).take (aa.cellsOf 3))=N y14:=hf 14 _ rfl;rw[lV] at k14;replace k14:bP enc aa W base spare held m 3 [c14]=N y14:=k14;obtain⟨x0,e0,_,z0⟩:=l9 underlying3 k0;obtain⟨x1,e1,_,z1⟩:=l9 underlying3 k1;obtain⟨x2,e2,_,z2⟩:=l9 underlying3 k2;obtain⟨x3,e3,_,z3⟩:=l9 underlying3 k3;obtain⟨x4,e4,_,z4⟩:=l9 underlying3 k4;obtain⟨x5,e5,_,z5⟩:=l9 underlying3 k5;obtain⟨x6,e6,_,z6⟩:=l9 underlying3 k6;obtain⟨x7,e7,_,z7⟩:=l9 underlying3 k7;obtain⟨x8,e8,_,z8⟩:=l9 underlying3 k8;obtain⟨x9,e9,_,z9⟩:=l9 underlying3 k9;obtain⟨x10,CL,_,z10⟩:=l9 underlying3 k10;obtain⟨x11,Ht,_,z11⟩:=l9 underlying3 k11;obtain⟨x12,e12,_,z12⟩:=l9 underlying3 k12;obtain⟨x13,e13,_,z13⟩:=l9 underlying3 k13;obtain⟨x14,e14,_,z14⟩:=l9 underlying3 k14;simp only[F6,and_true] at e0 e1 e2 e3 e4 e5 e6 e7 e8 e9 CL Ht e12 e13 e14;subst e0 e1 e2 e3 e4 e5 e6 e7 e8 e9 CL Ht e12 e13 e14;refine⟨⟨x0,x1,x2,x3,x4,x5,x6,x7,x8,x9,x10,x11,x12,x13,x14⟩,rfl,?_⟩;unfold uO;simp only[jZ,nJ,or_false];rintro x (rfl|rfl|rfl|rfl|rfl|rfl|rfl|rfl|rfl|rfl|rfl|rfl|rfl|rfl|rfl);all_goals(first|exact z0|exact z1|exact z2|exact z3|exact z4|exact z5|exact z6|exact z7|exact z8|exact z9|exact z10|exact z11|exact z12|exact z13|exact z14)
theorem aCk{cs:List ak}{y:wm H × List Af}(h:bP enc aa W base spare held n 29 cs=N y):∃g:gm,cs=(dx g).toList/\zC W W g:=by
 obtain⟨xs,m,_,_,bH,sW,hf⟩:=MG underlying29 h;rw[anC] at bH;match cs,bH with
 | [c0,c1,c2,c3,c4,c5,c6,c7,c8,c9,c10,c11,c12,c13,c14,EW,EX,EY,EZ,E5,DJ],_=>
  match xs,sW with
  | [y0,y1,y2,y3,y4],_=>have k0:bP enc aa W base spare held m 9 (([c0,c1,c2,c3,c4,c5,c6,c7,c8,c9,c10,c11,c12,c13,c14,EW,EX,EY,EZ,E5,DJ].drop 0).take (aa.cellsOf 9))=N y0:=hf 0 _ rfl;rw[Yq] at k0;replace k0:bP enc aa W base spare held m 9 [c0]=N y0:=k0;have k1:bP enc aa W base spare held m 23 (([c0,c1,c2,c3,c4,c5,c6,c7,c8,c9,c10,c11,c12,c13,c14,EW,EX,EY,EZ,E5,DJ].drop 1).take (aa.cellsOf 23))=N y1:=hf 1 _ rfl;rw[anz] at k1;replace k1:bP enc aa W base spare held m 23 [c1,c2,c3]=N y1:=k1;have k2:bP enc aa W base spare held m 24 (([c0,c1,c2,c3,c4,c5,c6,c7,c8,c9,c10,c11,c12,c13,c14,EW,EX,EY,EZ,E5,DJ].drop 4).take (aa.cellsOf 24))=N y2:=hf 2 _ rfl;rw[anB] at k2;replace k2:bP enc aa W base spare held m 24 [c4]=N y2:=k2;have k3:bP enc aa W base spare held m 26 (([c0,c1,c2,c3,c4,c5,c6,c7,c8,c9,c10,c11,c12,c13,c14,EW,EX,EY,EZ,E5,DJ].drop 5).take (aa.cellsOf 26))=N y3:=hf 3 _ rfl;rw[anA] at k3;replace k3:bP enc aa W base spare held m 26 [c5,c6,c7,c8,c9,c10,c11,c12,c13,c14,EW,EX,EY,EZ,E5]=N y3:=k3;have k4:bP enc aa W base spare held m 27 (([c0,c1,c2,c3,c4,c5,c6,c7,c8,c9,c10,c11,c12,c13,c14,EW,EX,EY,EZ,E5,DJ].drop 20).take (aa.cellsOf 27))=N y4:=hf 4 _ rfl;rw[aCd] at k4;replace k4:bP enc aa W base spare held m 27 [DJ]=N y4:=k4;obtain⟨x0,e0,_,z0⟩:=DataW.trod_string underlying9 k0;obtain⟨ya,yb,yc,e1⟩:=aCi k1;obtain⟨Ac,nc,cc,lc,e2,rc⟩:=anD k2;obtain⟨ro,e3,ho⟩:=aCj k3;obtain⟨Ae,ne,ce,le,e4,r4,q4,_,m4,c4'⟩:=UF (T:=pI) Cc (Ce W W) underlying27 anx aL (λ_=>rfl) (λn cs y hk _=>aCh hk) k4;simp only[F6,and_true] at e0 e1 e2 e3 e4;obtain⟨f1,f2,f3⟩:=e1;obtain⟨h0,h1,h2,h3,h4,h5,h6,h7,h8,h9,h10,h11,h12,h13,h14⟩:=e3;subst e0 f1 f2 f3 e2 h0 h1 h2 h3 h4 h5 h6 h7 h8 h9 h10 h11 h12 h13 h14 e4;exact⟨⟨x0.data.toList,ya,yb,yc,Ac,nc,cc,lc,ro,Ae,ne,ce,le⟩,rfl,rc,r4,m4,c4',ho,q4,Yr z0⟩
end
end
section
open Go.ChangeShapes Go.WideShapes Go.Deep
section
variable{H:Type}{enc:bM × ak->H}{W:Y}{base:Nat}{spare:Nat->Bool}{held:Bool}
theorem anE:aa.cellsOf 234=4:=by kernel_rfl
theorem anF:aa.cellsOf 165=3:=by kernel_rfl
theorem anG:aa.cellsOf 90=7:=by kernel_rfl
theorem aCl:aa.cellsOf 88=1:=by kernel_rfl
theorem aCm:aa.cellsOf 31=1:=by kernel_rfl
theorem aCn:aa.cellsOf 30=1:=by kernel_rfl
theorem aCo:aa.cellsOf 36=27:=by kernel_rfl
theorem aCp{cs:List ak}{y:wm H × List Af}(h:bP enc aa W base spare held n 234 cs=N y):∃x:iM,cs=pR x/\XQ x:=by
 obtain⟨xs,m,_,_,bH,sW,hf⟩:=MG underlying234 h;rw[anE] at bH;match cs,bH with
 | [c0,c1,c2,c3],_=>
  match xs,sW with
  | [y0,y1,y2,y3],_=>have k0:bP enc aa W base spare held m 9 (([c0,c1,c2,c3].drop 0).take (aa.cellsOf 9))=N y0:=hf 0 _ rfl;rw[Yq] at k0;replace k0:bP enc aa W base spare held m 9 [c0]=N y0:=k0;have k1:bP enc aa W base spare held m 3 (([c0,c1,c2,c3].drop 1).take (aa.cellsOf 3))=N y1:=hf 1 _ rfl;rw[lV] at k1;replace k1:bP enc aa W base spare held m 3 [c1]=N y1:=k1;have k2:bP enc aa W base spare held m 3 (([c0,c1,c2,c3].drop 2).take (aa.cellsOf 3))=N y2:=hf 2 _ rfl;rw[lV] at k2;replace k2:bP enc aa W base spare held m 3 [c2]=N y2:=k2;have k3:bP enc aa W base spare held m 3 (([c0,c1,c2,c3].drop 3).take (aa.cellsOf 3))=N y3:=hf 3 _ rfl;rw[lV] at k3;replace k3:bP enc aa W base spare held m 3 [c3]=N y3:=k3;obtain⟨x0,e0,_,z0⟩:=DataW.trod_string underlying9 k0;obtain⟨x1,e1,_,z1⟩:=l9 underlying3 k1;obtain⟨x2,e2,_,z2⟩:=l9 underlying3 k2;obtain⟨x3,e3,_,_⟩:=l9 underlying3 k3;simp only[F6,and_true] at e0 e1 e2 e3;subst e0 e1 e2 e3;exact⟨⟨x0.data.toList,x1,x2,x3⟩,rfl,Yr z0,z1,z2⟩
theorem aCq{cs:List ak}{y:wm H × List Af}(h:bP enc aa W base spare held n 165 cs=N y):∃x:GV,cs=xY x/\True:=by
 obtain⟨xs,m,_,_,bH,sW,hf⟩:=MG underlying165 h;rw[anF] at bH;match cs,bH with
 | [c0,c1,c2],_=>
  match xs,sW with
  | [y0,y1,y2],_=>have k0:bP enc aa W base spare held m 3 (([c0,c1,c2].drop 0).take (aa.cellsOf 3))=N y0:=hf 0 _ rfl;rw[lV] at k0;replace k0:bP enc aa W base spare held m 3 [c0]=N y0:=k0;have k1:bP enc aa W base spare held m 3 (([c0,c1,c2].drop 1).take (aa.cellsOf 3))=N y1:=hf 1 _ rfl;rw[lV] at k1;replace k1:bP enc aa W base spare held m 3 [c1]=N y1:=k1;have k2:bP enc aa W base spare held m 3 (([c0,c1,c2].drop 2).take (aa.cellsOf 3))=N y2:=hf 2 _ rfl;rw[lV] at k2;replace k2:bP enc aa W base spare held m 3 [c2]=N y2:=k2;obtain⟨x0,e0,_,_⟩:=l9 underlying3 k0;obtain⟨x1,e1,_,_⟩:=l9 underlying3 k1;obtain⟨x2,e2,_,_⟩:=l9 underlying3 k2;simp only[F6,and_true] at e0 e1 e2;subst e0 e1 e2;exact⟨⟨x0,x1,x2⟩,rfl,trivial⟩
theorem aCr{cs:List ak}{y:wm H × List Af}(h:bP enc aa W base spare held n 90 cs=N y):∃x:gV,cs=qp x/\aeL W W x:=by
 obtain⟨xs,m,_,_,bH,sW,hf⟩:=MG underlying90 h;rw[anG] at bH;match cs,bH with
 | [c0,c1,c2,c3,c4,c5,c6],_=>
  match xs,sW with
  | [y0,y1,y2,y3,y4,y5,y6],_=>have k0:bP enc aa W base spare held m 3 (([c0,c1,c2,c3,c4,c5,c6].drop 0).take (aa.cellsOf 3))=N y0:=hf 0 _ rfl;rw[lV] at k0;replace k0:bP enc aa W base spare held m 3 [c0]=N y0:=k0;have k1:bP enc aa W base spare held m 3 (([c0,c1,c2,c3,c4,c5,c6].drop 1).take (aa.cellsOf 3))=N y1:=hf 1 _ rfl;rw[lV] at k1;replace k1:bP enc aa W base spare held m 3 [c1]=N y1:=k1;have k2:bP enc aa W base spare held m 3 (([c0,c1,c2,c3,c4,c5,c6].drop 2).take (aa.cellsOf 3))=N y2:=hf 2 _ rfl;rw[lV] at k2;replace k2:bP enc aa W base spare held m 3 [c2]=N y2:=k2;have k3:bP enc aa W base spare held m 3 (([c0,c1,c2,c3,c4,c5,c6].drop 3).take (aa.cellsOf 3))=N y3:=hf 3 _ rfl;rw[lV] at k3;replace k3:bP enc aa W base spare held m 3 [c3]=N y3:=k3;have k4:bP enc aa W base spare held m 3 (([c0,c1,c2,c3,c4,c5,c6].drop 4).take (aa.cellsOf 3))=N y4:=hf 4 _ rfl;rw[lV] at k4;replace k4:bP enc aa W base spare held m 3 [c4]=N y4:=k4;have k5:bP enc aa W base spare held m 9 (([c0,c1,c2,c3,c4,c5,c6].drop 5).take (aa.cellsOf 9))=N y5:=hf 5 _ rfl;rw[Yq] at k5;replace k5:bP enc aa W base spare held m 9 [c5]=N y5:=k5;have k6:bP enc aa W base spare held m 88 (([c0,c1,c2,c3,c4,c5,c6].drop 6).take (aa.cellsOf 88))=N y6:=hf 6 _ rfl;rw[aCl] at k6;replace k6:bP enc aa W base spare held m 88 [c6]=N y6:=k6;obtain⟨x0,e0,_,z0⟩:=l9 underlying3 k0;obtain⟨x1,e1,_,_⟩:=l9 underlying3 k1;obtain⟨x2,e2,_,z2⟩:=l9 underlying3 k2;obtain⟨x3,e3,_,_⟩:=l9 underlying3 k3;obtain⟨x4,e4,_,z4⟩:=l9 underlying3 k4;obtain⟨x5,e5,_,z5⟩:=DataW.trod_string underlying9 k5;obtain⟨A6,n6,c6,l6,e6,r6,_,_,m6,d6⟩:=UF (T:=GV) xY (λ_=>True) underlying88 anF aL (λ_=>rfl) (λn cs y hk _=>aCq hk) k6;simp only[F6,and_true] at e0 e1 e2 e3 e4 e5 e6;subst e0 e1 e2 e3 e4 e5 e6;exact⟨⟨x0,x1,x2,x3,x4,x5.data.toList,A6,n6,c6,l6⟩,rfl,r6,m6,d6,Yr z5,z0,z4,z2⟩
theorem aCs{cs:List ak}{y:wm H × List Af}(h:bP enc aa W base spare held n 36 cs=N y):∃b:jY,cs=(mJ b).toList/\Jk W W b:=by
 obtain⟨xs,m,_,_,bH,sW,hf⟩:=MG underlying36 h;rw[aCo] at bH;match cs,bH with
 | [c0,c1,c2,c3,c4,c5,c6,c7,c8,c9,c10,c11,c12,c13,c14,EW,EX,EY,EZ,E5,DJ,c21,Rc,c23,c24,UG,UH],_=>
  match xs,sW with
  | [y0,y1,y2,y3,y4,y5,y6],_=>have k0:bP enc aa W base spare held m 29 (([c0,c1,c2,c3,c4,c5,c6,c7,c8,c9,c10,c11,c12,c13,c14,EW,EX,EY,EZ,E5,DJ,c21,Rc,c23,c24,UG,UH].drop 0).take (aa.cellsOf 29))=N y0:=hf 0 _ rfl;rw[anC] at k0;replace k0:bP enc aa W base spare held m 29 [c0,c1,c2,c3,c4,c5,c6,c7,c8,c9,c10,c11,c12,c13,c14,EW,EX,EY,EZ,E5,DJ]=N y0:=k0;have k1:bP enc aa W base spare held m 30 (([c0,c1,c2,c3,c4,c5,c6,c7,c8,c9,c10,c11,c12,c13,c14,EW,EX,EY,EZ,E5,DJ,c21,Rc,c23,c24,UG,UH].drop 21).take (aa.cellsOf 30))=N y1:=hf 1 _ rfl;rw[aCn] at k1;replace k1:bP enc aa W base spare held m 30 [c21]=N y1:=k1;have k2:bP enc aa W base spare held m 31 (([c0,c1,c2,c3,c4,c5,c6,c7,c8,c9,c10,c11,c12,c13,c14,EW,EX,EY,EZ,E5,DJ,c21,Rc,c23,c24,UG,UH].drop 22).take (aa.cellsOf 31))=N y2:=hf 2 _ rfl;rw[aCm] at k2;replace k2:bP enc aa W base spare held m 31 [Rc]=N y2:=k2;obtain⟨g,e0,hg⟩:=aCk k0;obtain⟨Ax,nx,cx,lx,e1,r1,q1,_,m1,d1⟩:=UF (T:=gV) qp (aeL W W) underlying30 anG aL (λ_=>rfl) (λn cs y hk _=>aCr hk) k1;obtain⟨Ar,nr,cr,lr,e2,r2,q2,_,m2,d2⟩:=UF (T:=iM) pR XQ underlying31 anE aL (λ_=>rfl) (λn cs y hk _=>aCp hk) k2;simp only[F6,and_true] at e1 e2;subst e1 e2;refine⟨⟨g,Ax,nx,cx,lx,Ar,nr,cr,lr,c23,c24,UG,UH⟩,?_,hg,r2,m2,d2,q2,r1,m1,d1,q1⟩;have e: [c0,c1,c2,c3,c4,c5,c6,c7,c8,c9,c10,c11,c12,c13,c14,EW,EX,EY,EZ,E5,DJ,O Ax nx cx,O Ar nr cr,c23,c24,UG,UH]= [c0,c1,c2,c3,c4,c5,c6,c7,c8,c9,c10,c11,c12,c13,c14,EW,EX,EY,EZ,E5,DJ]++ [O Ax nx cx,O Ar nr cr,c23,c24,UG,UH]:=rfl;rw[e0] at e;exact e.trans rfl
theorem open_bk{r:Reach}{b0:Nat}{d:wm H}{p:List Af}(hv:Value.okWide aa W r b0 36 v)(h:DataW.Trod enc aa W base spare held 36 v d p):
  ∃b:jY,v=aD (mJ b)/\Jk W W b:=by
 obtain⟨cs,rfl,_⟩:=okWide_struct underlying36 hv;obtain⟨oO,hf⟩:=h;obtain⟨x,hx,hn⟩:=aCs hf;refine⟨x,?_,hn⟩;have hx':cs.toList=(mJ x).toList:=by simpa[Value.cells] using hx
 congr 1;exact Array.ext' hx'
end
end
theorem aCt:(aa.globals[2]?).map (·.type)=N 372:=by kernel_rfl
theorem aCu:aa.cellsOf 372=20:=by kernel_rfl
theorem aCv:aa.cellsOf 181=1:=by kernel_rfl
theorem tabPow{rest:List (String × wm Unit)}(h:laidMet aa (("internal/strconv.uint64pow10",Rows.laid_internal_strconv_uint64pow10)::rest) W):Lib.TabIs aa W "internal/strconv.uint64pow10" .u64 Lib.pow10Tab:=Lib.tabIs_of_head (rest:=rest) afJ aCt underlying372 underlying181 aCv aCu (by have e:(Rows.laid_internal_strconv_uint64pow10:wm Unit)=Lib.tabData .u64 Lib.pow10Tab:=dh;rw[<-e];exact h)
theorem aCw:(aa.globals[0]?).map (·.type)=N 326:=by kernel_rfl
theorem aCx:aa.cellsOf 326=256:=by kernel_rfl
theorem aCy:aa.cellsOf 5=1:=by kernel_rfl
theorem tabSpc{rest:List (String × wm Unit)}(h:laidMet aa (("strings.asciiSpace",Rows.laid_strings_asciiSpace)::rest) W):Lib.TabIs aa W "strings.asciiSpace" .u8 Lib.asciiSpaceTab:=Lib.tabIs_of_head (rest:=rest) afK aCw underlying326 underlying5 aCy aCx (by have e:(Rows.laid_strings_asciiSpace:wm Unit)=Lib.tabData .u8 Lib.asciiSpaceTab:=dh;rw[<-e];exact h)
end Go.Proofs.YtgnflmdpalmejaaGreatDoor
