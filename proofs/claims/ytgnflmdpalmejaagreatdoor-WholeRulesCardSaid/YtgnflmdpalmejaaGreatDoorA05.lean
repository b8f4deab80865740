/- Lemmas for the proof of WholeRules (the card is in the file ..WholeRulesCard); each lemma names its own conditions. -/
import Derived.Test.YtgnflmdpalmejaaGreatDoorA04
import Derived.Laws.IdiomCopy
import Derived.Laws.MakeOwn
namespace Go.Proofs.YtgnflmdpalmejaaGreatDoor
open And renaming intro->bI
open Bool renaming false->X,false_eq_true->lK,true->Z
open Decidable renaming em->sU
open Go.Act renaming put->uB
open Go renaming Addr->aK,Calls->aF,TypeId->bM,Value->ak,World->Y,bodyPost_ret->eX,ownsRow_setCell_other->mO,wpAnyH->yu,wp_region_held_drew->iA
open Go.Ending renaming returned->aI
open Go.IntKind renaming i64->D
open Go.Obj renaming cells->ag
open Go.Region renaming ready->RJ
open Go.RowKit renaming Below->aj
open Go.RowKit.Below renaming refl->aN
open Go.Value renaming agg->aD,bool->ax,int->C,pointer->aQ,slice->O,tuple->bz
open Go.World renaming cell?_alloc_lt->Rn,ownsRow_nil->ng,setCell->Bp,size_alloc->aW,size_drew->G7,size_setCell->wh
open Int renaming lt_or_le->Gy,tdiv->rR,tmod->IY
open List renaming drop_eq_getElem_cons->DY,drop_of_length_le->Qy,drop_zero->Vn,eq_nil_of_length_eq_zero->O0,getElem?_cons_succ->iX,getElem?_cons_zero->iI,getElem?_eq_getElem->wu,getElem?_eq_none->Ot,getElem?_map->xy,getElem?_set_ne->Xf,getElem?_toArray->iH,getElem_cons_succ->uE,getElem_cons_zero->uD,getElem_toArray->uC,length_append->eB,length_cons->iP,length_nil->pV,length_replicate->Xd,length_set->U0,length_singleton->mf,length_take->xq,map_set->NB,mem_append->pW,mem_cons->jZ,mem_cons_of_mem->F8,mem_cons_self->SL,mem_map->qw,mem_of_getElem?->Jr,mem_or_eq_of_mem_set->Sm,mem_singleton->lF,not_mem_nil->nJ,replicate->nU,setIfInBounds_toArray->pY,set_cons_succ->oP,set_cons_zero->oh,size_toArray->AX,take_length->Nb,take_of_length_le->o7
open Nat renaming add_assoc->RH,add_zero->mZ,eq_zero_or_pos->sw,le_refl->aC,le_trans->ja,lt_of_lt_of_le->yA,lt_or_ge->jl,min_eq_left->Nc,mod_lt->EF,mul_add->zL,mul_assoc->L9,mul_comm->L8,mul_one->Oo,mul_zero->Oq,zero_le->FI
open Option renaming map_some->qh,none->J,some->N
open Option.some renaming inj->Jt,injEq->kH
open Go.Proofs.Tryz renaming prog->aa
open Go.RowKit Go.Lib Go.Proofs.Tryz
set_option maxRecDepth 100000
set_option maxHeartbeats 32000000
set_option linter.unusedVariables false
set_option linter.unusedSimpArgs false
variable{A:Option aK}{B B' b base c g i k n n1 q:Nat}{R:Prop}{T e:bM}{a' b' d dV u:ak}{out:List Nat}{tmps:Array ak}{w w' w0:Y}{xs:List ak}{y z:Int}
def BB:Nat:=1000000000
theorem Dq:0<BB:=by unfold BB;omega
def val:List Nat->Nat
 | []=>0
 |a::l=>a+BB*val l
def jW(l:List Nat):Prop:=∀x∈l,x<BB
def Can(l:List Nat):Prop:=jW l/\l.getLast?≠N 0
theorem val_append:∀(a b:List Nat),val (a++b)=val a+BB ^ a.length*val b
 | [],b=>by simp[val]
 |x::a,b=>by show x+BB*val (a++b)=x+BB*val a+BB ^ (a.length+1)*val b;rw[val_append a b,zL,Nat.pow_succ,RH,L8 (BB ^ a.length) BB,L9]
theorem adE:∀(l:List Nat),jW l->val l<BB ^ l.length
 | [],_=>by simp[val]
 |x::l,h=>by have h1:=h x SL;have h2:=adE l (λy m=>h y (F8 x m));show x+BB*val l<BB ^ (l.length+1);rw[Nat.pow_succ,L8 (BB ^ l.length) BB];have h3:BB*(val l+1)<=BB*BB ^ l.length:=Nat.mul_le_mul_left BB h2;rw[zL,Oo] at h3;omega
theorem akd:∀(k:Nat),val (nU k 0)=0
 |0=>rfl
 |k+1=>by show 0+BB*val (nU k 0)=0;rw[akd k,Oq]
theorem ake(h:R:=by
  rcases jl i l.length with a|a;·exact a
  ·rw[Ot a] at h;cases h):R:=h
theorem Qx(l:List Nat)(i:Nat)(x:Nat)(h:l[i]?=N x):val (l.take (i+1))=val (l.take i)+BB ^ i*x:=by
 have hi:i<l.length:=by exact ake
 rw[List.take_add_one,h,Option.toList_some,val_append,xq,Nc (Nat.le_of_lt hi)];simp[val]
theorem W9(l:List Nat)(i:Nat)(x:Nat)(h:l[i]?=N x):val (l.drop i)=x+BB*val (l.drop (i+1)):=by
 have hi:i<l.length:=by exact ake
 have e:l[i]=x:=by rw[wu hi] at h;exact Jt h
 rw[DY hi,e];rfl
theorem aaz(l:List Nat)(i:Nat)(h:i<=l.length):val l=val (l.take i)+BB ^ i*val (l.drop i):=by
 conv=>lhs;rw[<-List.take_append_drop i l]
 rw[val_append,xq,Nc h]
theorem jW.take{l:List Nat}(h:jW l)(i:Nat):jW (l.take i):=λx m=>h x (List.mem_of_mem_take m)
theorem jW.get{l:List Nat}(h:jW l){x:Nat}(e:l[i]?=N x):x<BB:=h x (Jr e)
theorem jW.set{l:List Nat}(h:jW l)(i:Nat){x:Nat}(hx:x<BB):jW (l.set i x):=λy m=>by
 rcases Sm m with a|a;·exact h y a
 ·rw[a];exact hx
theorem jW.app{l:List Nat}(h:jW l){x:Nat}(hx:x<BB):jW (l++ [x]):=λy m=>by
 rcases pW.1 m with a|a;·exact h y a
 ·rw[lF.1 a];exact hx
theorem jW.zeros(k:Nat):jW (nU k 0):=λx m=>by rw[(List.mem_replicate.1 m).2];exact Dq
theorem adF:∀(l:List Nat) (i x y:Nat),l[i]?=N x->val (l.set i y)+BB ^ i*x=val l+BB ^ i*y
 | [],i,x,y,h=>by rw[List.getElem?_nil] at h;cases h
 |a::l,0,x,y,h=>by
  have e:a=x:=Jt h
  subst e
  show y+BB*val l+BB ^ 0*a=a+BB*val l+BB ^ 0*y
  rw[Nat.pow_zero];omega
 |a::l,i+1,x,y,h=>by
  have r:=adF l i x y h
  show a+BB*val (l.set i y)+BB ^ (i+1)*x=a+BB*val l+BB ^ (i+1)*y
  rw[Nat.pow_succ,L8 (BB ^ i) BB,L9,L9,RH,RH,<-zL,<-zL,r]
theorem adG:Can []:=⟨(λx m=>absurd m (nJ)),aG⟩
theorem adH{l:List Nat}(h:Can l)(h0:l≠ []):BB ^ (l.length-1)<=val l:=by
 obtain⟨x,e⟩:=List.getLast?_isSome.2 h0 |> Option.isSome_iff_exists.1;have hx:x≠0:=λz=>h.2 (by rw[e,z]);have e2:l[l.length-1]?=N x:=by rw[<-List.getLast?_eq_getElem?];exact e
 have e3:=Qx l (l.length-1) x e2;have hl:0<l.length:=List.length_pos_iff.2 h0;rw[show l.length-1+1=l.length from by omega,Nb] at e3;rw[e3];have:BB ^ (l.length-1)*1<=BB ^ (l.length-1)*x:=Nat.mul_le_mul_left _ I;omega
theorem aaA{l:List Nat}(h:Can l)(h0:val l=0):l= []:=by
 rcases sU (l= []) with a|a;·exact a
 have:=adH h a;have:=Nat.pow_pos (n:=l.length-1) Dq;omega
theorem akf{a:Nat}{l:List Nat}(h:Can (a::l)):Can l:=by
 refine⟨λx m=>h.1 x (F8 a m),λe=>h.2 ?_⟩;cases l with
 |nil=>cases e
 |cons b l=>rw[List.getLast?_cons_cons];exact e
theorem akg:∀(l m:List Nat),Can l->Can m->val l=val m->l=m
 | [],m,hl,hm,e=>(aaA hm e.symm).symm
 |a::l,[],hl,hm,e=>aaA hl e
 |a::l,b::m,hl,hm,e=>by
  have ha:=hl.1 a SL;have hb:=hm.1 b SL;have e':a+BB*val l=b+BB*val m:=e;have e1:a=b:=by have:=congrArg (· %BB) e';simp only[Nat.add_mul_mod_self_left] at this;rwa [Nat.mod_eq_of_lt ha,Nat.mod_eq_of_lt hb] at this
  subst e1;have e2:val l=val m:=Nat.eq_of_mul_eq_mul_left Dq (Nat.add_left_cancel e');rw[akg l m (akf hl) (akf hm) e2]
theorem akh{l m:List Nat}(hl:Can l)(hm:jW m)(h:m.length<l.length):val m<val l:=by
 have h0:l≠ []:=λz=>by rw[z] at h;exact Nat.not_lt_zero _ h
 have h1:=adH hl h0;have h2:=adE m hm;have h3:BB ^ m.length<=BB ^ (l.length-1):=Nat.pow_le_pow_right Dq I;omega
theorem aki{l m:List Nat}(hl:jW l)(hm:jW m)(e:l.length=m.length)(i:Nat)(x y:Nat)(hx:l[i]?=N x)(hy:m[i]?=N y)(hd:l.drop (i+1)=m.drop (i+1))(h:x<y):val l<val m:=by
 have hi:i<l.length:=by
  rcases jl i l.length with a|a;·exact a
  rw[Ot a] at hx;cases hx
 rw[aaz l i (Nat.le_of_lt hi),aaz m i I,W9 l i x hx,W9 m i y hy,hd];have h1:=adE (l.take i) (hl.take i);rw[xq,Nc (Nat.le_of_lt hi)] at h1;have h2:BB ^ i*(x+1)<=BB ^ i*y:=Nat.mul_le_mul_left _ h;rw[zL,zL];rw[zL,Oo] at h2;omega
theorem akj{l:List Nat}(h:Can l)(h1:val l<BB)(h0:val l≠0):l= [val l]:=by refine akg l [val l] h ⟨λx m=>by rw[lF.1 m];exact h1,?_⟩ RF;show N (val l)≠N 0;intro z;exact h0 (Jt z)
theorem akk{l:List Nat}(h:jW l)(i x:Nat)(hi:l.length=i+1)(e:l[i]?=N x)(hx:x≠0):Can l:=by refine⟨h,λz=>hx ?_⟩;rw[List.getLast?_eq_getElem?,hi,Nat.add_sub_cancel,e] at z;exact Jt z
theorem awf{l:List Nat}(i:Nat)(hl:l.length=i+1)(e:l[i]?=N 0):val (l.take i)=val l:=by have:=Qx l i 0 e;rw[o7 I,Oq,mZ] at this;exact this.symm
def jC(l:List Nat):List ak:=l.map λ(x:Nat)=>C .u32 (x:Int)
def gB(w:Y)(B:Nat)(dV:ak)(l:List Nat):Prop:=∃A n c,dV=O A n c/\l.length=n/\n<=c/\n<=1000000/\Reads w B 1 A n (jC l)
def bT(w:Y)(B:Nat)(neg dV:ak)(z:Int):Prop:=neg=ax (decide (z<0))/\∃l,gB w B dV l/\Can l/\val l=z.natAbs
theorem gB.keep{l:List Nat}(h:gB w B dV l)(hk:∀p:aK,p.block<B->w'.cell? p=w.cell? p):gB w' B dV l:=by obtain⟨A,n,c,e,h1,h2,h3,h4⟩:=h;exact⟨A,n,c,e,h1,h2,h3,h4.keep hk⟩
theorem gB.more{l:List Nat}(h:gB w B dV l)(hB:B<=B'):gB w B' dV l:=by obtain⟨A,n,c,e,h1,h2,h3,h4⟩:=h;exact⟨A,n,c,e,h1,h2,h3,h4.more hB⟩
theorem bT.keep{neg:ak}(h:bT w B neg dV z)(hk:∀p:aK,p.block<B->w'.cell? p=w.cell? p):bT w' B neg dV z:=by obtain⟨e,l,h1,h2⟩:=h;exact⟨e,l,h1.keep hk,h2⟩
theorem bT.more{neg:ak}(h:bT w B neg dV z)(hB:B<=B'):bT w B' neg dV z:=by obtain⟨e,l,h1,h2⟩:=h;exact⟨e,l,h1.more hB,h2⟩
theorem bT.below{neg:ak}(h:bT w B neg dV z)(hb:aj B w w'):bT w' B neg dV z:=h.keep λ_ hp=>hb.cell hp
theorem IU(l:List Nat):(jC l).length=l.length:=by simp[jC]
theorem Reads.Gx{l:List Nat}(h:Reads w B 1 A n (jC l))(hk:k<n):
  ∃ad x,A=N ad/\ad.block<B/\l[k]?=N x/\w.cell? (ad.add k)=N (C .u32 (x:Int)):=by
 obtain⟨ad,u,rfl,hb,hx,hc⟩:=h.at_ hk;unfold jC at hx;rw[xy] at hx;cases hz:l[k]? with
 |none=>rw[hz] at hx;cases hx
 |some x=>rw[hz] at hx;simp only[qh,kH] at hx;exact⟨ad,x,rfl,hb,rfl,by rw[hc,hx]⟩
theorem akl(A:Option aK)(n c:Nat)(l:List Nat)(B:Nat)(w:Y)(hr:Reads w B 1 A n (jC l))(hl:l.length=n)(hc:n<=c)(jG:n<=1000000)(hm:jW l):
  aF aa 197 #[O A n c] w λe w'=>w'=w/\∃k,k<=n/\e=aI (O A k c)/\Can (l.take k)/\val (l.take k)=val l:=by
 have HR:=G hr;have HM:=G hm;clear hr hm;go_enter func197,ntmps197;go_wp2_with fail;go_loopw [0] (λv wr=>∃k:Nat,v=O A k c/\k<=n/\val (l.take k)=val l/\wr=w) (λv _=>match v with|O _ k _=>k|_=>0);case atStart=>exact⟨n,rfl,aC _,by rw[<-hl,Nb],rfl⟩
 obtain⟨k,rfl,hk,hv,hw⟩:=hrel;subst hw;have HV:=G hv;clear hv;rcases sw k with rfl|h0;·have F:=G adG;go_wp2_with fail;go_ret;exact⟨rfl,0,FI _,rfl,by simpa using F.E,HV.E⟩
 obtain⟨j,rfl⟩:∃j,k=j+1:=⟨k-1,I⟩;obtain⟨ad,x,rfl,_,hx,uf⟩:=HR.E.Gx (k:=j) I;have HX:=G hx;clear hx;rcases sU (x=0) with rfl|wW
 ·have bH:(l.take (j+1)).length=j+1:=by rw[xq];omega
  have e1:(l.take (j+1))[j]?=N 0:=afu;have F:=G ((awf j bH e1).trans HV.E);rw[List.take_take,Nc (Nat.le_succ j)] at F;clear bH e1;go_wp2_with fail;exact⟨⟨j,rfl,I,F.E,trivial⟩,aG⟩
 have k1:((x:Int)==0)=X:=by have:(x:Int)≠0:=I;simpa using this
 have bH:(l.take (j+1)).length=j+1:=OW;have e1:(l.take (j+1))[j]?=N x:=afu;have F:=G (akk (HM.E.take (j+1)) j x bH e1 wW);clear bH e1;go_wp2_with fail;go_ret;exact⟨rfl,j+1,hk,rfl,F.E,HV.E⟩
def iZ(z:Int):Int:=if z=0 then 0 else if z<0 then -1 else 1
theorem Xa(neg dV:ak)(z:Int)(B:Nat)(w:Y)(h:bT w B neg dV z):
  aF aa 69 #[aD #[neg,dV]] w λe w'=>e=aI (C D (iZ z))/\aj w w w':=by
 obtain⟨rfl,l,⟨A,n,c,rfl,hl,DT,hc,hr⟩,IW,hv⟩:=h;have sK:=(aN w w).alloc (aC _) (ag #[ax (decide (z<0)),O A n c] 46);have nQ:=G sK;clear sK hr;rcases sU (z=0) with rfl|hz;·have e0:l= []:=aaA IW hv;subst e0;obtain rfl:n=0:=hl.symm;have F:af (iZ 0=0):=rfl;clear IW hv;go_enter func69,ntmps69;go_wp2_with fail;go_ret;exact⟨ic,nQ⟩
 have hn:(n:Int)≠0:=by intro e;have:l= []:=O0 I;rw[this] at hv;have:z.natAbs=0:=hv.symm;omega
 have k0:((n:Int)==0)=X:=by simpa using hn
 have F:af (iZ z=if z<0 then -1 else 1):=by show _=_;unfold iZ;rw[if_neg hz]
 clear IW hv hl;cases hs:decide (z<0)
 ·have F2:af (iZ z=1):=by show _=_;rw[F.E,if_neg (by simpa using hs)]
  rw[hs] at nQ;go_enter func69,ntmps69;go_wp2_with fail;go_ret;exact⟨Rz,nQ⟩
 have F2:af (iZ z= -1):=by show _=_;rw[F.E,if_pos (by simpa using hs)]
 rw[hs] at nQ;go_enter func69,ntmps69;go_wp2_with fail;go_ret;exact⟨Rz,nQ⟩
def vQ(neg:Bool)(l:List Nat):Int:=if neg then -(val l:Int) else(val l:Int)
def uU(neg dV:ak):Ending:=aI (aD #[neg,dV])
theorem gB.take{l:List Nat}(h:Reads w B 1 A n (jC l))(hl:l.length=n)(hc:n<=c)(hb:n<=1000000)(hk:k<=n):gB w B (O A k c) (l.take k):=by
 refine⟨A,k,c,rfl,OW,I,I,?_⟩;refine⟨by rw[IU,xq];omega,λh0=>?_⟩;obtain⟨ad,e,dU,uf⟩:=h.2 I;refine⟨ad,e,dU,λj u hu=>uf j u ?_⟩;unfold jC at hu |-;rw[xy,List.getElem?_take] at hu;rw[xy];split at hu;·exact hu
 cases hu
theorem set2{a b:ak}(h:ai w g T #[a,b]):ai ((w.setCell ⟨g,0,J⟩ a').setCell ⟨g,1,J⟩ b') g T #[a',b']:=by have:=(h.bL 0 a').bL 1 b';simpa using this
theorem Cm{a b:ak}(h:aj B w0 w)(hB:B<=g):aj B w0 ((w.setCell ⟨g,0,J⟩ a).setCell ⟨g,1,J⟩ b):=(h.setCell (p:=⟨g,0,J⟩) hB a).setCell (p:=⟨g,1,J⟩) hB b
theorem adI{cs:Array ak}(h:ai w q 46 cs)(hs:cs.size=2)(h0:tmps.getD 4 undef=aQ q):(results f198 tmps).run aa w= .ok (aD cs) w:=results_cell_row results198 tmps w q 46 cs (0,0) _ h0 h underlying46 rfl Fa
theorem awg{neg:Bool}{l:List Nat}(hp:val l=0):decide (vQ neg l<0)=X:=by unfold vQ;rw[hp];cases neg<;>rfl
theorem awh{neg:Bool}{l:List Nat}(hp:val l≠0):decide (vQ neg l<0)=neg:=by
 unfold vQ;cases neg;·simp only[lK,if_false];rw[decide_eq_false_iff_not];omega
 simp only[if_true];rw[decide_eq_true_eq];omega
theorem awi(neg:Bool)(l:List Nat):(vQ neg l).natAbs=val l:=by
 unfold vQ;cases neg;·simp
 simp
theorem akm{l:List Nat}(h:Can l)(h0:l≠ []):val l≠0:=λe=>h0 (aaA h e)
theorem Tz(neg:Bool)(dV:ak)(l:List Nat)(B:Nat)(w:Y)(h:gB w B dV l)(hB:B<=w.heap.size)(hm:jW l):
  aF aa 198 #[neg,dV] w λe w'=>(∃nv mv,e=uU nv mv/\bT w' B nv mv (vQ neg l))/\aj w w w':=by
 obtain⟨A,n,c,rfl,hl,DT,hc,hr⟩:=h;have HT:=G (λW (hr:Reads W B 1 A n (jC l))=>akl A n c l B W hr hl DT hc hm);have HG:=G (λW (hr:Reads W B 1 A n (jC l)) k (hk:k<=n)=>gB.take hr hl DT hc hk);have dU:=ai.new w 46 #[X,O J 0 0];have aT:=(aN w w).alloc (aC _) (ag #[X,O J 0 0] 46);have HR:=G hr;have HL:=G hl;have HK:=G dU;clear hr dU aT hm hl;go_enter func198,ntmps198;go_wp2_with fail;refine(HT _ (HR.alloc hB _)).mono ?_;rintro e' w1 ⟨rfl,k,hk,rfl,IW,hv⟩;have z0:=HK.cell 0;have z1:=HK.cell 1;have zf:=HK.frozen;have hfin:∀(nb:Bool),nb=decide (vQ neg l<0)->∀W',aj w w W'->bT W' B (ax nb) (O A k c) (vQ neg l):=by rintro nb rfl W' hW;exact⟨rfl,l.take k,HG W' (HR.below (hW.mono hB)) k hk,IW,by rw[hv,awi]⟩
 have HF:=G hfin;rcases sw k with rfl|h0
 ·have Bc:val l=0:=by rw[<-hv];rfl
  have F:=G (awg (neg:=neg) Bc);clear IW hv hfin Bc;cases neg;all_goals
   go_wp2_with fail;have jM:=ai.new w 46 #[X,O A 0 c];have eH:=(aN w w).alloc (aC _) (ag #[X,O A 0 c] 46);refine eX (adI jM rfl rfl) rfl ⟨⟨_,_,rfl,HF X F.symm _ eH⟩,eH⟩
 have Bc:val l≠0:=by rw[<-hv];refine akm IW (λe=>?_);have:=congrArg List.length e;rw[xq,HL.E,pV] at this;omega
 have F:=G (awh (neg:=neg) Bc);clear IW hv hfin Bc;cases neg;·go_wp2_with fail;have jM:=ai.new w 46 #[X,O A k c];have eH:=(aN w w).alloc (aC _) (ag #[X,O A k c] 46);refine eX (adI jM rfl rfl) rfl ⟨⟨_,_,rfl,HF X F.symm _ eH⟩,eH⟩
 go_wp2_with fail;have jM:=ai.new w 46 #[Z,O A k c];have eH:=(aN w w).alloc (aC _) (ag #[Z,O A k c] 46);refine eX (adI jM rfl rfl) rfl ⟨⟨_,_,rfl,HF Z F.symm _ eH⟩,eH⟩
theorem awj{cs:Array ak}(h:ai w q 46 cs)(hs:cs.size=2)(h0:tmps.getD 2 undef=aQ q):(results f133 tmps).run aa w= .ok (aD cs) w:=results_cell_row results133 tmps w q 46 cs (0,0) _ h0 h underlying46 rfl Fa
def Dr(z:Int)(w:Y)(e:Ending)(w':Y):Prop:=(∃nv mv,e=uU nv mv/\bT w' w' nv mv z)/\aj w w w'
theorem awk(neg dV:ak)(z:Int)(B:Nat)(w:Y)(h:bT w B neg dV z)(hB:B<=w.heap.size):
  aF aa 133 #[aD #[neg,dV]] w (Dr (-z) w):=by
 obtain⟨rfl,l,akn,IW,hv⟩:=h;have HM:=G akn;have aT:=((aN w w).alloc (aC _) (ag #[ax (decide (z<0)),dV] 46)).alloc aG (ag #[X,O J 0 0] 46);have aP:=G aT;have dU:=ai.new (w.alloc (ag #[ax (decide (z<0)),dV] 46)) 46 #[X,O J 0 0];rw[aW] at dU;have HK:=G dU;have FZ:af (vQ (!decide (z<0)) l= -z):=by
  show _=_;unfold vQ;rw[hv];cases h:decide (z<0)
  ·have:¬z<0:=by simpa using h
   simp only[Bool.not_false,if_true];omega
  have:z<0:=by simpa using h
  simp only[Bool.not_true,lK,if_false];omega
 have HS:=G (λW nb (hm:gB W B dV l) (hW:B<=W.heap.size)=>Tz nb dV l B W hm hW IW.1);clear akn aT dU hv IW;generalize hnb:decide (z<0)=nb at*;go_enter func133,ntmps133;go_wp2_with fail;refine(HS _ _ (HM.keep λ_ hp=>(aP.mono hB).cell hp) (ja hB aP.size)).mono ?_;rintro e' w1 ⟨⟨_,_,rfl,ig⟩,aB⟩;rw[FZ.E] at ig;have HI:=G ig;obtain⟨rfl,lx,⟨Ax,nx,cx,rfl,_⟩,_⟩:=ig;generalize decide (-z<0)=nz at*;have hbk1:=HK.below aB aG;have aM:=G (aU aP aB);have tY:=G hbk1;have z0:=hbk1.cell 0;have z1:=hbk1.cell 1;have zf:=hbk1.frozen;simp only[iH,iI,iX] at z0 z1;clear aB hbk1 HK HM HS;unfold uU;go_wp2_with fail;have jM:=set2 (a':=ax nz) (b':=O Ax nx cx) tY;have eH:=Cm (a:=ax nz) (b:=O Ax nx cx) aM (B:=w.heap.size) (g:=w.heap.size+1) I;have aR:=Cm (a:=ax nz) (b:=O Ax nx cx) (aN B w1) (g:=w.heap.size+1) I;exact eX (awj jM rfl rfl) rfl ⟨⟨_,_,rfl,(HI.below aR).more (by have:=eH.size;omega)⟩,eH⟩
theorem awl(w:Y)(a b:Nat):(w.drewN a).drewN b=w.drewN (a+b):=by unfold World.drewN;simp[RH]
def Cn(a b:Nat):Int:=if a<b then -1 else if b<a then 1 else 0
theorem adJ{a:Nat}(h:a<b):Cn a b= -1:=if_pos h
theorem ako{a:Nat}(h:b<a):Cn a b=1:=by unfold Cn;rw[if_neg I,if_pos h]
theorem adK(a b:ak)(la lb:List Nat)(B:Nat)(w:Y)(ha:gB w B a la)(hb:gB w B b lb)(ca:Can la)(cb:Can lb):
  aF aa 242 #[a,b] w λe w'=>e=aI (C D (Cn (val la) (val lb)))/\aj w.heap.size w w':=by
 obtain⟨A,n,c,rfl,hl,_,hc,hr⟩:=ha;obtain⟨A',n',c',rfl,zM,hnc',sO,tK⟩:=hb;have HR:=G hr;have IX:=G tK;have HC:=G ca;have HC':=G cb;clear hr tK ca cb;rcases Nat.lt_trichotomy n n' with h|h|h
 ·have k0:((n:Int)!=(n':Int))=Z:=by
   have:(n:Int)≠n':=I
   simpa using this
  have F:=G (adJ (akh HC'.E HC.E.1 I))
  go_enter func242,ntmps242
  go_wp2_with fail
  go_ret
  exact⟨ic,aN _ _⟩
 ·subst h;go_enter func242,ntmps242;go_wp2_with fail;go_loopw [5] (λv wr=>∃(k:Nat) (x:Int),v=C D x/\x+1=(k:Int)/\k<=n/\la.drop k=lb.drop k/\∃q,wr=w.drewN q) (λv _=>(intOf v+1).toNat);case atStart=>exact⟨n,(n:Int)-1,rfl,I,aC _,by rw[Qy I,Qy I],0,rfl⟩
  obtain⟨k,xv,rfl,hxk,hk,hd,q,hw⟩:=hrel;have aH:aj w.heap.size w wr:=by rw[hw];exact below_drewN (aN _ _) q
  have HRq:af (Reads wr B 1 A n (jC la)):=by show Reads _ _ _ _ _ _;rw[hw];exact HR.E.drewN q
  have awm:af (Reads wr B 1 A' n (jC lb)):=by show Reads _ _ _ _ _ _;rw[hw];exact IX.E.drewN q
  have HW:=G hw;clear hw;have HD:=G hd;clear hd;rcases sw k with rfl|h0
  ·have e0:la=lb:=by simpa using HD.E
   have F:af (Cn (val la) (val lb)=0):=by show _=_;rw[e0];unfold Cn;rw[if_neg (Nat.lt_irrefl _),if_neg (Nat.lt_irrefl _)]
   obtain rfl:xv= -1:=I;clear e0;go_wp2_with fail;go_ret;exact⟨ic,abl⟩
  obtain⟨j,rfl⟩:∃j,k=j+1:=⟨k-1,I⟩;obtain rfl:xv=(j:Int):=I;obtain⟨ad,x,rfl,_,hx,hcx⟩:=HRq.E.Gx (k:=j) I;obtain⟨Hf,y,rfl,_,hy,hcy⟩:=awm.E.Gx (k:=j) I;have HX:=G hx;have HY:=G hy;clear hx hy;rcases Nat.lt_trichotomy x y with h|h|h
  ·have k3:((x:Int)!=(y:Int))=Z:=by
    have:(x:Int)≠y:=I
    simpa using this
   have F:=G (adJ (aki HC.E.1 HC'.E.1 I j x y HX.E HY.E HD.E h))
   go_wp2_with fail
   go_quiet(fail)
   go_wp2_with fail
   go_quiet(fail)
   go_wp2_with fail
   go_ret
   exact⟨ic,abl⟩
  ·subst h;have F:af (la.drop j=lb.drop j):=by show _=_;have hx:=HX.E;have hy:=HY.E;have h1:j<la.length:=I;have h2:j<lb.length:=I;rw[wu h1] at hx;rw[wu h2] at hy;rw[DY h1,DY h2,HD.E,Jt hx,Jt hy]
   go_wp2_with fail;go_quiet(fail);go_wp2_with fail;exact⟨⟨j,(j:Int)-1,rfl,I,I,F.E,q+nq,by rw[HW.E,awl]⟩,Fb⟩
  have k3:((x:Int)!=(y:Int))=Z:=by have:(x:Int)≠y:=I;simpa using this
  have F:=G (ako (aki HC'.E.1 HC.E.1 I j y x HY.E HX.E HD.E.symm h));go_wp2_with fail;go_quiet(fail);go_wp2_with fail;go_quiet(fail);go_wp2_with fail;go_ret;exact⟨ic,abl⟩
 have k0:((n:Int)!=(n':Int))=Z:=by have:(n:Int)≠n':=I;simpa using this
 have F:=G (ako (akh HC.E HC'.E.1 I));go_enter func242,ntmps242;go_wp2_with fail;go_ret;exact⟨ic,aN _ _⟩
theorem aaB:(aa.info? 182).map (λi=>(i.zero,i.size,i.bytes))=N (N (C .u32 0),1,4):=by kernel_rfl
theorem awn{cs:Array ak}(h:ai w q 46 cs)(hs:cs.size=2)(h0:tmps.getD 2 undef=aQ q):(results f26 tmps).run aa w= .ok (aD cs) w:=results_cell_row results26 tmps w q 46 cs (0,0) _ h0 h underlying46 rfl Fa
theorem adL(l:List Nat)(x:Nat):jC (l++ [x])=jC l++ [C .u32 (x:Int)]:=by simp[jC]
def Qz(n:Int)(l:List Nat)(m:Nat):Prop:=jW l/\val l+BB ^ l.length*m=n.natAbs/\(m=0->Can l)
theorem Qz.step{n:Int}{l:List Nat}{m:Nat}(h:Qz n l m)(h0:0<m):Qz n (l++ [m%1000000000]) (m/1000000000):=by
 obtain⟨h1,h2,_⟩:=h;have hb:m%1000000000<BB:=EF _ Dq;refine⟨h1.app hb,?_,λhz=>?_⟩
 ·rw[val_append,eB,mf,Nat.pow_succ];have e:val [m%1000000000]=m%1000000000:=RF;rw[e,L9,RH,<-zL];have e2:m%1000000000+BB*(m/1000000000)=m:=by show m%1000000000+1000000000*(m/1000000000)=m;omega
  rw[e2];exact h2
 refine akk (h1.app hb) l.length (m%1000000000) aG aG ?_;omega
theorem Qz.len{n:Int}{l:List Nat}{m:Nat}(h:Qz n l m)(h0:0<m)(hn:n.natAbs<=9223372036854775808):l.length<=2:=by
 obtain⟨_,h2,_⟩:=h;rcases jl 2 l.length with a|a;·have e:BB ^ 3<=BB ^ l.length:=Nat.pow_le_pow_right Dq a;have e2:BB ^ 3=1000000000000000000000000000:=rfl;have e3:BB ^ l.length*1<=BB ^ l.length*m:=Nat.mul_le_mul_left _ h0;omega
 exact a
theorem adM{W W':Y}{size:Nat}{x:ak}(h:W.ownsRow base T size x n xs)(hg:W.grownBy W' x.ownBlock)(hb:base<=W.heap.size):aj base W W':=⟨hg.os,hg.tape,hg.output,hg.size,λk hk=>hg.block k I (λe=>by have:=lJ h k e.symm;omega)⟩
theorem awo{size:Nat}(h:w.ownsRow base e size (O A n c) n xs):n<=c:=by
 rcases h.2 with⟨hv,h0⟩|⟨g,cap,cur,hv,_,_,DT,_⟩;·injection hv with _ _ e;omega
 injection hv with _ _ e;omega
theorem gB.own{l:List Nat}(h:w.ownsRow base e 1 (O A n c) n (jC l))(hn:n<=1000000):gB w w (O A n c) l:=by have h1:=h.1;rw[IU] at h1;exact⟨A,n,c,rfl,I,awo h,hn,Reads.uA h⟩
theorem akp(h:R:=by
  have HS:=G (HI.step h0);have HL:=HI.len h0 I;have q0:IY (m:Int) 1000000000=((m%1000000000:Nat):Int):=rfl;have q1:rR (m:Int) 1000000000=((m/1000000000:Nat):Int):=rfl;have q2:m%1000000000<1000000000:=EF _ I;have q3:m/1000000000<m:=Nat.div_lt_self h0 I;generalize m%1000000000=d at*;generalize m/1000000000=m' at*;go_wp2_with(at_builtin;refine pX _ rfl (.tmp 15) (.tmp 19) _ rfl (w.heap.size+1) 182 i0 _ 1 4 underlying44 gz fu gq fG rfl I _ l.length (jC l) rfl (HO.alloc _) (wo.heap.size+1) (N ⟨wo,0,J⟩) 1 1 [C .u32 (d:Int)] rfl (mX wo #[C .u32 (d:Int)] 182 1 rfl) rZ lH I bB ?_;intro v6 w6 dw bU iT;obtain⟨A6,c6,rfl⟩:=eO dw;have oL:=G (bI dw (bI bU iT));clear dw bU iT);obtain⟨dw,bU,_⟩:=oL;refine⟨⟨m',l++ [d],rfl,HS,G5,I,?_,?_⟩,bW⟩;·rw[adL,eB,mf];exact dw
  ·exact bA.trans (((aN _ _).alloc I _).trans (adM (HO.alloc _) bU bB))):R:=h
theorem akq(h:R:=by refine⟨u,[],?_,⟨(λx hx=>absurd hx nJ),by simp[val,HU.E],λ_=>adG⟩,aG,hu2,ng _ _ _ _,aN _ _⟩;show C .u64 _=C .u64 _;congr 1;(try simp only[IntKind.wrap_u64]);omega):R:=h
theorem akr(h:R:=by obtain⟨_,j2,j3⟩:=HI;refine eX (awn jM rfl rfl) rfl ⟨⟨_,_,rfl,?_⟩,eH⟩;exact⟨by rw[k0],l,gB.own ho I,j3 rfl,by rw[<-j2,Oq,mZ]⟩):R:=h
theorem Xb(n:Int)(wG: -9223372036854775808<=n)(Gb:n<9223372036854775808)(w:Y):
  aF aa 26 #[n] w (Dr n w):=by
 obtain⟨i0,gz,fu,gq,fG⟩:=info_parts aaB;obtain⟨u,hu⟩:∃u:Nat,u=n.natAbs:=⟨_,rfl⟩;have HU:=G hu;have hu2:u<=9223372036854775808:=I;have aT:=(aN w w).alloc (aC _) (ag #[X,O J 0 0] 46);have aP:=G aT;have qV:=G (ai.new w 46 #[X,O J 0 0]);have lY:(w.alloc (ag #[X,O J 0 0] 46)).heap.size=w.heap.size+1:=aW _ _;clear aT;rcases Gy n 0 with hneg|hneg
 ·have k0:decide (n<0)=Z:=by rw[decide_eq_true_eq];exact hneg
  go_enter func26,ntmps26;go_wp2_with fail;go_loopw [3,4] (λx v wr=>∃(m:Nat) (l:List Nat),x=C .u64 (m:Int)/\Qz n l m/\l.length<=3/\m<=9223372036854775808/\wr.ownsRow (w.heap.size+1) 182 1 v l.length (jC l)/\aj (w.heap.size+1) (w.alloc (ag #[X,O J 0 0] 46)) wr) (λx v _=>(intOf x).toNat);case atStart=>exact akq
  obtain⟨m,l,rfl,wX,rU,hm,aV,aH⟩:=hrel;obtain⟨wo,rfl⟩:=dz wr;have HI:=G wX;have HO:=G aV;have bA:=G aH;have eP:=aH.size;rw[lY] at eP;clear wX aV aH;rcases sw m with rfl|h0;·obtain⟨A,c,rfl⟩:=eO HO;have dU:=qV.below bA I;have z0:=dU.cell 0;have z1:=dU.cell 1;have zf:=dU.frozen;simp only[iH,iI,iX] at z0 z1;have HK:=G dU;clear dU;go_wp2_with fail;have jM:=set2 (a':=ax Z) (b':=O A l.length c) HK;have eH:=Cm (a:=ax Z) (b:=O A l.length c) (aP.trans (bA.mono I)) (aC _);have aY:=iQ HO HK aL;have ho:=mO (mO HO (a:=⟨w,0,J⟩) aY (ax Z)) (a:=⟨w,1,J⟩) aY (O A l.length c);exact akr
  exact akp
 have k0:decide (n<0)=X:=by rw[decide_eq_false_iff_not];omega
 go_enter func26,ntmps26;go_wp2_with fail;go_loopw [3,4] (λx v wr=>∃(m:Nat) (l:List Nat),x=C .u64 (m:Int)/\Qz n l m/\l.length<=3/\m<=9223372036854775808/\wr.ownsRow (w.heap.size+1) 182 1 v l.length (jC l)/\aj (w.heap.size+1) (w.alloc (ag #[X,O J 0 0] 46)) wr) (λx v _=>(intOf x).toNat);case atStart=>exact akq
 obtain⟨m,l,rfl,wX,rU,hm,aV,aH⟩:=hrel;obtain⟨wo,rfl⟩:=dz wr;have HI:=G wX;have HO:=G aV;have bA:=G aH;have eP:=aH.size;rw[lY] at eP;clear wX aV aH;rcases sw m with rfl|h0;·obtain⟨A,c,rfl⟩:=eO HO;have dU:=qV.below bA I;have z0:=dU.cell 0;have z1:=dU.cell 1;have zf:=dU.frozen;simp only[iH,iI,iX] at z0 z1;have HK:=G dU;clear dU;go_wp2_with fail;have jM:=set2 (a':=ax X) (b':=O A l.length c) HK;have eH:=Cm (a:=ax X) (b:=O A l.length c) (aP.trans (bA.mono I)) (aC _);have aY:=iQ HO HK aL;have ho:=mO (mO HO (a:=⟨w,0,J⟩) aY (ax X)) (a:=⟨w,1,J⟩) aY (O A l.length c);exact akr
 exact akp
def jX(l:List Nat):Array ak:=(jC l).toArray
theorem aks(l:List Nat):(jX l).size=l.length:=by simp[jX,IU]
theorem TA(l:List Nat)(i x:Nat)(h:l[i]?=N x):(jX l)[i]?=N (C .u32 (x:Int)):=by unfold jX jC;simp[h]
theorem QA(l:List Nat)(i x:Nat):(jX l).setIfInBounds i (C .u32 (x:Int))=jX (l.set i x):=by unfold jX jC;rw[NB];simp
theorem akt:∃i,aa.info? 182=N i/\i.zero=N (C .u32 0)/\i.size=1/\i.bytes=4:=info_parts aaB
theorem aku(h:R:=by
  apply Array.ext;·rw[size_madeCells,aks,Xd]
  ·intro j h1 h2;simp[madeCells,jX,jC,Value.cells,Nat.mod_one]):R:=h
theorem akv(n:Nat)(hn:n<=1000000)(W:Y):(Instr.makeSlice 44 (C D (n:Int)) (C D (n:Int))).run aa W= .ok (O W n n) (W.alloc (ag (jX (nU n 0)) 182)):=by
 obtain⟨i,hi,hz,hs,hb⟩:=akt;have hr:=run_make (P:=aa) W 44 182 i (C .u32 0) underlying44 hi hz .i64 .i64 n n I I (by rw[hb];omega) I;simp only[Int.toNat_natCast,hs,Oo] at hr;rw[hr];have e:madeCells (C .u32 0).cells n=jX (nU n 0):=by exact aku
 rw[e]
def Ou(l:List Nat)(d i:Nat)(out:List Nat)(r:Nat):Prop:=out.length=l.length/\jW out/\val (l.drop i)=d*val (out.drop i)+r/\r<d
theorem Ou.start(l:List Nat){d:Nat}(hd:0<d):Ou l d l.length (nU l.length 0) 0:=by refine⟨Xd,jW.zeros _,?_,hd⟩;rw[Qy (aC _),Qy aG];simp[val]
theorem Ou.step{l:List Nat}{d j:Nat}{r x:Nat}(h:Ou l d (j+1) out r)(hd:0<d)(hx:l[j]?=N x)(hl:jW l):Ou l d j (out.set j ((r*1000000000+x)/d)) ((r*1000000000+x)%d)/\(r*1000000000+x)/d<1000000000:=by
 obtain⟨h1,h2,h3,h4⟩:=h;have pM:x<1000000000:=hl.get hx;have hj:j<l.length:=by
  rcases jl j l.length with a|a;·exact a
  rw[Ot a] at hx;cases hx
 have hq:(r*1000000000+x)/d<1000000000:=by rw[Nat.div_lt_iff_lt_mul hd];have:(r+1)*1000000000<=d*1000000000:=Nat.mul_le_mul_right _ h4;rw[L8 1000000000 d];omega
 refine⟨⟨YO,h2.set j hq,?_,EF _ hd⟩,hq⟩;have e1:=W9 l j x hx;have e2:(out.set j ((r*1000000000+x)/d))[j]?=N ((r*1000000000+x)/d):=by rw[List.getElem?_set_self I]
 have e3:=W9 _ j _ e2;have e4:(out.set j ((r*1000000000+x)/d)).drop (j+1)=out.drop (j+1):=by rw[List.drop_set_of_lt I]
 rw[e1,e3,e4,h3];have e5:=Nat.div_add_mod (r*1000000000+x) d;generalize(r*1000000000+x)/d=q at*;generalize(r*1000000000+x)%d=r' at*;generalize val (out.drop (j+1))=v at*;have e6:d*(q+BB*v)=d*q+BB*(d*v):=by rw[zL];congr 1;rw[<-L9,<-L9,L8 d BB]
 rw[e6,zL];generalize d*v=dv at*;generalize d*q=dq at*;have hB:BB=1000000000:=rfl;rw[hB] at*;omega
def awp(l:List Nat)(d:Nat)(w:Y)(e:Ending)(w':Y):Prop:=
 ∃q r qv rv,e=aI (bz #[qv,rv])/\gB w' w' qv q/\gB w' w' rv [r]/\jW q/\r<d/\val l=d*val q+r/\aj w w w'
theorem gB.blk{l:List Nat}(h:ai w g 182 (jX l))(hn:l.length<=1000000):gB w w (O g l.length l.length) l:=by
 refine⟨_,_,_,rfl,rfl,aC _,hn,by rw[IU,Oo],λ_=>⟨_,rfl,h.lt,λj u hu=>?_⟩⟩;have:(⟨g,0,J⟩:aK).add j=⟨g,j,J⟩:=by unfold Addr.add;split<;>simp_all
 rw[this,h.cell j];unfold jX;rw[iH];exact hu
theorem awq(a:ak)(l:List Nat)(d:Nat)(B:Nat)(w:Y)(ha:gB w B a l)(hB:B<=w.heap.size)(hl:jW l)(uN:0<d)(pG:d<1000000000):
  aF aa 243 #[a,C .u32 (d:Int)] w (awp l d w):=by
 obtain⟨A,n,c,rfl,En,_,hc,hr⟩:=ha;have Gz:=akv n hc;have HR:=G hr;have QB:=G hl;have HL:=G En;have aT:=(aN w w).alloc (aC _) (ag (jX (nU n 0)) 182);have aP:=G aT;have qV:=G (ai.new w 182 (jX (nU n 0)));have gP:af (Ou l d n (nU n 0) 0):=by have:=Ou.start l uN;rw[En] at this;exact this
 clear hr hl aT En;go_enter func243,ntmps243;go_wp2_with fail;go_loopw [7,8] (λrv iv wr=>∃(i:Nat) (x:Int) (out:List Nat) (r:Nat),iv=C D x/\x+1=(i:Int)/\rv=C .u64 (r:Int)/\i<=n/\Ou l d i out r/\ai wr w 182 (jX out)/\aj w w wr) (λ_ iv _=>(intOf iv+1).toNat);case atStart=>exact⟨n,(n:Int)-1,_,0,rfl,I,rfl,aC _,gP,qV,aP⟩
 obtain⟨i,xv,out,r,rfl,hxi,rfl,hi,wX,dU,aH⟩:=hrel;obtain⟨wo,rfl⟩:=dz wr;have HI:=G wX;have uk:=G dU;have bA:=G aH;have eP:=aH.size;have nE:=wX.2.2.2;clear wX aH;rcases sw i with rfl|h0
 ·obtain rfl:xv= -1:=by omega
  clear dU;go_wp2_with fail;go_ret2;obtain⟨j1,j2,j3,j4⟩:=HI;refine⟨out,r,_,_,rfl,?_,?_,j2,j4,?_,?_⟩;·have:=gB.blk (uk.alloc (ag #[C .u32 (r:Int)] 182)) (by rw[j1,HL.E];exact hc);rw[j1,HL.E] at this;exact this
  ·exact gB.blk (l:= [r]) (ai.new wo 182 (jX [r])) aG
  ·simpa using j3
  exact bA.alloc eP _
 obtain⟨j,rfl⟩:∃j,i=j+1:=⟨i-1,I⟩;obtain rfl:xv=(j:Int):=I;obtain⟨ad,x,rfl,_,hx,hcx⟩:=(HR.below (bA.mono hB)).Gx (k:=j) I;have pM:x<1000000000:=QB.get hx;have HS:=G (HI.step uN hx QB);have TB:=HS.2;have hoj:∃y,out[j]?=N y:=⟨out[j]'(by rw[HI.E.1,HL.E];omega),wu _⟩;obtain⟨y,hy⟩:=hoj;have z0:=(dU.cell j).trans (TA out j y hy);have zf:=dU.frozen j;have q0:rR ((r:Int)*1000000000+(x:Int)) (d:Int)=(((r*1000000000+x)/d:Nat):Int):=rfl;have q1:IY ((r:Int)*1000000000+(x:Int)) (d:Int)=(((r*1000000000+x)%d:Nat):Int):=rfl;have q2:(r*1000000000+x)%d<d:=EF _ uN;generalize(r*1000000000+x)/d=q at*;generalize(r*1000000000+x)%d=r' at*;clear hx hy dU;go_wp2_with fail;have hz:=uk.bL j (C .u32 (q:Int));rw[QA] at hz;exact⟨⟨j,(j:Int)-1,out.set j q,r',rfl,I,rfl,I,HS.1,hz,bA.setCell (p:=⟨w,j,J⟩) (aC _) _⟩,Fb⟩
def awr(n d:Nat)(w:Y)(e:Ending)(w':Y):Prop:=
 ∃q r qv rv,e=aI (bz #[qv,rv])/\gB w' w' qv q/\gB w' w' rv r/\jW q/\jW r/\val q=n/d/\val r=n%d/\aj w w w'
theorem gB.none_(w:Y)(B:Nat):gB w B (O J 0 0) []:=⟨J,0,0,rfl,rfl,aC _,I,Reads.none_⟩
theorem gB.below{l:List Nat}(h:gB w B dV l)(hb:aj B w w'):gB w' B dV l:=h.keep λ_ hp=>hb.cell hp
theorem akw(a b:ak)(la:List Nat)(d:Nat)(B:Nat)(w:Y)(ha:gB w B a la)(hb:gB w B b [d])(hB:B<=w.heap.size)(ca:Can la)(uN:0<d)(pG:d<1000000000):
  aF aa 196 #[a,b] w (awr (val la) d w):=by
 have cb:Can [d]:=⟨(λx m=>by rw[lF.1 m];exact pG),Fe⟩;have vb:val [d]=d:=RF;have HC:=G (adK a b la [d] B w ha hb ca cb);rw[vb] at HC;have HS:=G (λW (h:aj w w W)=>awq a la d B W (ha.below (h.mono hB)) (ja hB h.size) ca.1 uN pG);have HA:=G ha;have EG:=G ca;have aJ:=hb;obtain⟨A',n',c',rfl,zM,hnc',sO,tK⟩:=aJ;obtain rfl:n'=1:=zM.symm;obtain⟨A,n,c,rfl,_⟩:=ha;have IX:=G tK;clear hb ca cb vb zM tK;rcases jl (val la) d with aO|DR;·have F1:=Nat.div_eq_of_lt aO;have F2:=Nat.mod_eq_of_lt aO;rw[adJ aO] at HC;have wT:=G F1;have wS:=G F2;clear F1 F2;go_enter func196,ntmps196;go_wp2_with fail;refine HC.mono ?_;rintro e' w1 ⟨rfl,aB⟩;go_wp2_with fail;go_ret2;exact⟨[],la,_,_,rfl,gB.none_ _ _,(HA.below (aB.mono hB)).more (ja hB aB.size),adG.1,EG.1,by rw[wT.E];rfl,wS.symm,aB⟩
 have Iq:0<=Cn (val la) d:=by unfold Cn;rw[if_neg I];split<;>omega
 have k0:decide (Cn (val la) d<0)=X:=fI;generalize hcn:Cn (val la) d=cn at*;clear hcn;go_enter func196,ntmps196;go_wp2_with fail;refine HC.mono ?_;rintro e' w1 ⟨rfl,aB⟩;obtain⟨ad,x,rfl,_,hx,hcx⟩:=(IX.below (aB.mono hB)).Gx (k:=0) I;obtain rfl:d=x:=Jt hx;have aws:=hcx;rw[show ad.add 0=ad from by simp[Addr.add]] at aws;have aM:=G aB;clear aB;go_wp2_with fail;refine(HS w1 aM).mono ?_;rintro e' w2 ⟨q,r,qv,rv,rfl,m1,m2,m3,m4,m5,aJ⟩;have HF:=G (bI m1 (bI m2 (bI m3 (bI m4 m5))));clear m1 m2 m3 m4 m5;go_wp2_with fail;go_ret2;obtain⟨m1,m2,m3,m4,m5⟩:=HF;have e1:val [r]=r:=RF;have e2:val la/d=val q:=by rw[m5,Nat.mul_add_div uN,Nat.div_eq_of_lt m4,mZ]
 have e3:val la%d=r:=by rw[m5,Nat.mul_add_mod,Nat.mod_eq_of_lt m4]
 exact⟨q,[r],qv,rv,rfl,m1,m2,m3,(λx m=>by rw[lF.1 m];show r<1000000000;omega),e2.symm,by rw[e1,e3],aU aM aJ⟩
theorem akx(h:R:=by obtain⟨a,rfl⟩:∃a:Nat,x=(a:Int):=⟨x.natAbs,I⟩;obtain⟨b,rfl⟩:∃b:Nat,y=(b:Int):=⟨y.natAbs,I⟩;rw[decide_eq_false I,decide_eq_false I];simp):R:=h
theorem awt(x y:Int)(q:List Nat)(h:val q=x.natAbs/y.natAbs):vQ (decide (x<0)!=decide (y<0)) q=rR x y:=by
 unfold vQ;rw[h];rcases Gy x 0 with hx|hx<;>rcases Gy y 0 with hy|hy
 ·obtain⟨a,rfl⟩:∃a:Nat,x= -(a:Int):=⟨x.natAbs,I⟩;obtain⟨b,rfl⟩:∃b:Nat,y= -(b:Int):=⟨y.natAbs,I⟩;rw[decide_eq_true hx,decide_eq_true hy,Int.neg_tdiv,Int.tdiv_neg,Int.neg_neg];simp
 ·obtain⟨a,rfl⟩:∃a:Nat,x= -(a:Int):=⟨x.natAbs,I⟩;obtain⟨b,rfl⟩:∃b:Nat,y=(b:Int):=⟨y.natAbs,I⟩;rw[decide_eq_true hx,decide_eq_false I,Int.neg_tdiv];simp
 ·obtain⟨a,rfl⟩:∃a:Nat,x=(a:Int):=⟨x.natAbs,I⟩;obtain⟨b,rfl⟩:∃b:Nat,y= -(b:Int):=⟨y.natAbs,I⟩;rw[decide_eq_false I,decide_eq_true hy,Int.tdiv_neg];simp
 exact akx
theorem awu(x y:Int)(r:List Nat)(h:val r=x.natAbs%y.natAbs):vQ (decide (x<0)) r=IY x y:=by
 unfold vQ;rw[h];rcases Gy x 0 with hx|hx<;>rcases Gy y 0 with hy|hy
 ·obtain⟨a,rfl⟩:∃a:Nat,x= -(a:Int):=⟨x.natAbs,I⟩;obtain⟨b,rfl⟩:∃b:Nat,y= -(b:Int):=⟨y.natAbs,I⟩;rw[decide_eq_true hx,Int.neg_tmod,Int.tmod_neg];simp;rfl
 ·obtain⟨a,rfl⟩:∃a:Nat,x= -(a:Int):=⟨x.natAbs,I⟩;obtain⟨b,rfl⟩:∃b:Nat,y=(b:Int):=⟨y.natAbs,I⟩;rw[decide_eq_true hx,Int.neg_tmod];simp;rfl
 ·obtain⟨a,rfl⟩:∃a:Nat,x=(a:Int):=⟨x.natAbs,I⟩;obtain⟨b,rfl⟩:∃b:Nat,y= -(b:Int):=⟨y.natAbs,I⟩;rw[decide_eq_false I,Int.tmod_neg];simp;rfl
 obtain⟨a,rfl⟩:∃a:Nat,x=(a:Int):=⟨x.natAbs,I⟩;obtain⟨b,rfl⟩:∃b:Nat,y=(b:Int):=⟨y.natAbs,I⟩;rw[decide_eq_false I];simp;rfl
theorem gB.store{l:List Nat}(h:gB w B dV l){p:aK}(hp:w.cell? p=N u)(hu:∀x:Int,u≠C .u32 x)(v:ak):gB (w.setCell p v) B dV l:=by
 obtain⟨A,n,c,e,h1,h2,h3,h4,h5⟩:=h;refine⟨A,n,c,e,h1,h2,h3,h4,λhn=>?_⟩;obtain⟨ad,ea,hb,hc⟩:=h5 hn;refine⟨ad,ea,hb,λj x hx=>?_⟩;have h0:=hc j x hx;rw[World.cell?_setCell_other w p _ v (λe=>?_)];·exact h0
 rw[<-e,hp] at h0;injection h0 with h0;unfold jC at hx;rw[xy] at hx;cases hz:l[j]? with
 |none=>rw[hz] at hx;cases hx
 |some y=>rw[hz] at hx;simp only[qh,kH] at hx;exact hu y (by rw[h0,<-hx])
theorem bT.store{neg:ak}(h:bT w B neg dV z){p:aK}(hp:w.cell? p=N u)(hu:∀x:Int,u≠C .u32 x)(v:ak):bT (w.setCell p v) B neg dV z:=by obtain⟨e,l,hm,hr⟩:=h;exact⟨e,l,hm.store hp hu v,hr⟩
theorem gB.drew{l:List Nat}(h:gB w B dV l):gB w.drew B dV l:=h
theorem TC{a b:Y}(h:aj B a.drew b):aj B a b:=(below_drewN (aN _ _) 1).trans h
theorem bT.one{neg:ak}(h:bT w B neg dV z)(h0:z≠0)(h1:z.natAbs<1000000000):neg=ax (decide (z<0))/\gB w B dV [z.natAbs]:=by obtain⟨e,l,hm,hc,hv⟩:=h;have:=akj hc (by rw[hv];exact h1) (by rw[hv];omega);rw[hv] at this;rw[this] at hm;exact⟨e,hm⟩
def aaC(x y:Int)(w:Y)(e:Ending)(w':Y):Prop:=
 ∃nv mv nv' mv',e=aI (bz #[aD #[nv,mv],aD #[nv',mv'],C D 0])/\bT w' w' nv mv (rR x y)/\bT w' w' nv' mv' (IY x y)/\aj w w w'
theorem adN(neg dV Dt Du:ak)(x y:Int)(B:Nat)(w:Y)(hx:bT w B neg dV x)(hy:bT w B Dt Du y)(hB:B<=w.heap.size)(hy0:y≠0)(Co:y.natAbs<1000000000):
  aF aa 134 #[aD #[neg,dV],aD #[Dt,Du]] w (aaC x y w):=by
 obtain⟨rfl,hmy⟩:=hy.one hy0 Co;have HY:=G hy;obtain⟨rfl,la,BM,uj,xU⟩:=hx;have aka:=hmy;have akc:=BM;obtain⟨Ay,ny,cy,rfl,_⟩:=aka;obtain⟨Ax,nx,cx,rfl,_⟩:=akc;have HMX:=G BM;have HMY:=G hmy;have EG:=G uj;have FQ:=G xU;have EH:(iZ y==0)=X:=by
  have:iZ y≠0:=by unfold iZ;rw[if_neg hy0];split<;>omega
  simpa using this
 have HQ:=G (awt x y);have HR:=G (awu x y);have ZJ:af (0<y.natAbs/\y.natAbs<1000000000):=⟨I,Co⟩;generalize vo:decide (x<0)=gU at*;generalize hny:decide (y<0)=nV at*;obtain⟨w4,uw⟩:∃w4:Y,w4=(((w.alloc (ag #[gU,O Ax nx cx] 46)).alloc (ag #[nV,O Ay ny cy] 46)).alloc (ag #[X,O J 0 0] 46)).alloc (ag #[X,O J 0 0] 46):=⟨_,rfl⟩;clear BM hmy uj xU hy vo hny hy0 Co;have dE:af (aj w w w4):=by show aj _ _ _;rw[uw];exact((((aN _ _).alloc (aC _) _).alloc bB _).alloc bB _).alloc bB _
 have rH:w4.heap.size=w.heap.size+4:=YB;have K0:af (ai w4 w 46 #[gU,O Ax nx cx]):=by show ai _ _ _ _;rw[uw];exact(((ai.new w _ _).alloc _).alloc _).alloc _
 have K1:af (ai w4 (w.heap.size+1) 46 #[nV,O Ay ny cy]):=by show ai _ _ _ _;rw[uw];have:=(ai.new (w.alloc (ag #[gU,O Ax nx cx] 46)) 46 #[nV,O Ay ny cy]);rw[aW] at this;exact(this.alloc _).alloc _
 have K2:af (ai w4 (w.heap.size+2) 46 #[X,O J 0 0]):=by show ai _ _ _ _;rw[uw];have:=(ai.new ((w.alloc (ag #[gU,O Ax nx cx] 46)).alloc (ag #[nV,O Ay ny cy] 46)) 46 #[X,O J 0 0]);rw[aW,aW] at this;exact this.alloc _
 have K3:af (ai w4 (w.heap.size+3) 46 #[X,O J 0 0]):=by show ai _ _ _ _;rw[uw];have:=(ai.new (((w.alloc (ag #[gU,O Ax nx cx] 46)).alloc (ag #[nV,O Ay ny cy] 46)).alloc (ag #[X,O J 0 0] 46)) 46 #[X,O J 0 0]);rw[aW,aW,aW] at this;exact this
 have zN:af (∀W,aj w w W->aF aa 69 #[aD #[nV,O Ay ny cy]] W λe w'=>e=aI (C D (iZ y))/\aj W W w'):=λW hW=>Xa _ _ y B W (HY.below (hW.mono hB));go_enter func134,ntmps134;go_wp2_with fail;rw[<-uw];clear uw;refine(zN w4 dE).mono ?_;rintro e' w5 ⟨rfl,cO⟩;have fT:=G (aU dE cO);have L0:=G (K0.below cO I);have L1:=G (K1.below cO I);have L2:=G (K2.below cO I);have L3:=G (K3.below cO I);have BJ:=cO.size;clear cO K0 K1 K2 K3 zN;have x1:w5.cell? ⟨w,1,J⟩=N (O Ax nx cx):=L0.cell 1;have x2:w5.cell? ⟨w.heap.size+1,1,J⟩=N (O Ay ny cy):=L1.cell 1;go_wp2_with fail;refine(akw _ _ la y.natAbs B w5 (HMX.below (fT.mono hB)) (HMY.below (fT.mono hB)) (ja hB fT.size) EG ZJ.1 ZJ.2).mono ?_;rintro e' w6 ⟨q,r,qv,rv,rfl,m1,m2,m3,m4,m5,m6,dJ⟩;have HM:=G (bI m1 (bI m2 (bI m3 m4)));have HQV:=G (HQ q (by rw[m5,FQ.E]));have HRV:=G (HR r (by rw[m6,FQ.E]));have eY:=G (aU fT dJ);have N0:=G (L0.below dJ I);have N1:=G (L1.below dJ I);have N2:=G (L2.below dJ I);have N3:=G (L3.below dJ I);have Eg:=dJ.size;clear dJ L0 L1 L2 L3 m1 m2 m3 m4 m5 m6 x1 x2 HQ HR;have x0:w6.cell? ⟨w,0,J⟩=N (ax gU):=N0.cell 0;have x1:w6.cell? ⟨w.heap.size+1,0,J⟩=N (ax nV):=N1.cell 0;go_upto_region 4 with fail;refine iA (S:=λW=>W.cell? ⟨w,0,J⟩=N (ax gU)/\W.cell? ⟨w.heap.size+1,0,J⟩=N (ax nV)) dh ⟨x0,x1⟩ (λbg=>?_);refine aA 0 ?_;refine aA 1 ?_;refine aA 2 ?_;refine aA 3 ?_;refine aA 4 ?_;refine aA 5 ?_;refine aA 7 ?_;refine aA 8 ?_;refine aA 9 ?_;refine bK 6 (λK hK=>?_);go_simp;refine(Tz (gU !=nV) qv q w6 w6.drew HM.1.drew (aC _) HM.2.2.1).mono ?_;rintro e' w7 ⟨⟨nv,mv,rfl,TD⟩,fF⟩;rw[HQV.E] at TD;have TE:=G TD;obtain⟨rfl,l7,⟨A7,n7,c7,rfl,_⟩,_⟩:=TD;generalize decide (rR x y<0)=sq at*;(try dsimp only[uU]);have uV:aj w6 w6 w7:=TC fF;have Dl:=uV.size;refine bF hK (by exact⟨(uV.cell dY).trans x0,(uV.cell dY).trans x1⟩) (λbg=>?_);clear hK K;refine bK 10 (λK hK=>?_);go_simp;refine(Tz gU rv r w6 w7 (HM.2.1.below uV) I HM.2.2.2).mono ?_;rintro e' w8 ⟨⟨nv',mv',rfl,hi8⟩,yQ⟩;rw[HRV.E] at hi8;have HI8:=G hi8;obtain⟨rfl,l8,⟨A8,n8,c8,rfl,_⟩,_⟩:=hi8;generalize decide (IY x y<0)=sr at*;(try dsimp only[uU]);have TF:aj w6 w6 w8:=aU uV yQ;have Qk:=TF.size;have N2':=N2.below TF I;have N3':=N3.below TF I;have z0:w8.cell? ⟨w.heap.size+2,0,J⟩=N (ax X):=N2'.cell 0;have z1:w8.cell? ⟨w.heap.size+2,1,J⟩=N (O J 0 0):=N2'.cell 1;have zf:=N2'.frozen;have y0:w8.cell? ⟨w.heap.size+3,0,J⟩=N (ax X):=N3'.cell 0;have y1:w8.cell? ⟨w.heap.size+3,1,J⟩=N (O J 0 0):=N3'.cell 1;have yf:=N3'.frozen;have X0:w8.cell? ⟨w,0,J⟩=N (ax gU):=(TF.cell dY).trans x0;have X1:w8.cell? ⟨w.heap.size+1,0,J⟩=N (ax nV):=(TF.cell dY).trans x1;refine bF hK (by exact⟨X0,X1⟩) (λbg=>?_);clear hK K;refine bK 11 (λK hK=>?_);go_simp;refine bF hK afA (λbg=>?_);clear hK K;refine bK 12 (λK hK=>?_);go_simp;refine bF hK afA (λbg=>?_);clear hK K;refine aA 13 ?_;refine gI ?_;repeat clear bg
 go_wp2_with fail;have e0:(w8.setCell ⟨w.heap.size+2,0,J⟩ (ax sq)).cell? ⟨w.heap.size+2,1,J⟩=N (O J 0 0):=Y6;have e1:((w8.setCell ⟨w.heap.size+2,0,J⟩ (ax sq)).setCell ⟨w.heap.size+2,1,J⟩ (O A7 n7 c7)).cell? ⟨w.heap.size+3,0,J⟩=N (ax X):=by simp[go_sem,y0]
 have e2:(((w8.setCell ⟨w.heap.size+2,0,J⟩ (ax sq)).setCell ⟨w.heap.size+2,1,J⟩ (O A7 n7 c7)).setCell ⟨w.heap.size+3,0,J⟩ (ax sr)).cell? ⟨w.heap.size+3,1,J⟩=N (O J 0 0):=by simp[go_sem,y1]
 have Ma:=((((TE.below (yQ.mono I)).store z0 (λ_ h=>nomatch h) (ax sq)).store e0 (λ_ h=>nomatch h) (O A7 n7 c7)).store e1 (λ_ h=>nomatch h) (ax sr)).store e2 (λ_ h=>nomatch h) (O A8 n8 c8);have HR9:=(((HI8.store z0 (λ_ h=>nomatch h) (ax sq)).store e0 (λ_ h=>nomatch h) (O A7 n7 c7)).store e1 (λ_ h=>nomatch h) (ax sr)).store e2 (λ_ h=>nomatch h) (O A8 n8 c8);have iL:=((set2 (a':=ax sq) (b':=O A7 n7 c7) N2').far (p:=⟨w.heap.size+3,0,J⟩) dY (ax sr)).far (p:=⟨w.heap.size+3,1,J⟩) dY (O A8 n8 c8);have hr3:=set2 (a':=ax sr) (b':=O A8 n8 c8) ((N3'.far (p:=⟨w.heap.size+2,0,J⟩) dY (ax sq)).far (p:=⟨w.heap.size+2,1,J⟩) dY (O A7 n7 c7));have eH:=Cm (a:=ax sr) (b:=O A8 n8 c8) (g:=w.heap.size+3) (Cm (a:=ax sq) (b:=O A7 n7 c7) (g:=w.heap.size+2) (eY.trans (TF.mono I)) I) I;have bV:((((w8.setCell ⟨w.heap.size+2,0,J⟩ (ax sq)).setCell ⟨w.heap.size+2,1,J⟩ (O A7 n7 c7)).setCell ⟨w.heap.size+3,0,J⟩ (ax sr)).setCell ⟨w.heap.size+3,1,J⟩ (O A8 n8 c8)).heap.size=w8.heap.size:=aG;generalize Bp _ ⟨w.heap.size+3,1,J⟩ _=wz at*;have c0:=iL.cell 0;have c1:=iL.cell 1;have c2:=hr3.cell 0;have c3:=hr3.cell 1;simp only[iH,iI,iX] at c0 c1 c2 c3;refine eX (v:=bz #[aD #[sq,O A7 n7 c7],aD #[sr,O A8 n8 c8],C D 0]) ?_ rfl ⟨_,_,_,_,rfl,Ma.more I,HR9.more I,eH⟩;simp[results,results134,go_sem,c0,c1,c2,c3]
theorem awv{cs:Array ak}(h:ai w q 46 cs)(hs:cs.size=2)(h0:tmps.getD 4 undef=aQ q):(results f132 tmps).run aa w= .ok (aD cs) w:=results_cell_row results132 tmps w q 46 cs (0,0) _ h0 h underlying46 rfl Fa
theorem aww(a d:Nat):Nat.gcd d (a%d)=Nat.gcd a d:=by rw[Nat.gcd_comm d (a%d),<-Nat.gcd_rec d a,Nat.gcd_comm]
theorem aky(h:R:=by show ai _ _ _ _;rw[dF];have:=(ai.new ((w.alloc (ag #[gU,O Ax nx cx] 46)).alloc (ag #[nV,O Ay ny cy] 46)) 46 #[X,O J 0 0]);rw[aW,aW] at this;exact this):R:=h
theorem TG(h:R:=by show aj _ _ _;rw[dF];exact(((aN _ _).alloc (aC _) _).alloc bB _).alloc bB _):R:=h
theorem akz(h:R:=by show ai _ _ _ _;rw[dF];have:=(ai.new (w.alloc (ag #[gU,O Ax nx cx] 46)) 46 #[nV,O Ay ny cy]);rw[aW] at this;exact this.alloc _):R:=h
theorem awx(neg dV Dt Du:ak)(x y:Int)(B:Nat)(w:Y)(hx:bT w B neg dV x)(hy:bT w B Dt Du y)(hB:B<=w.heap.size)(Co:y.natAbs<1000000000):
  aF aa 132 #[aD #[neg,dV],aD #[Dt,Du]] w (Dr (Nat.gcd x.natAbs y.natAbs:Nat) w):=by
 obtain⟨rfl,la,yR,uj,xU⟩:=hx;obtain⟨rfl,lb,pK,qZ,Dv⟩:=hy;have QC:=yR;have Ov:=pK;obtain⟨Ay,ny,cy,rfl,_⟩:=Ov;obtain⟨Ax,nx,cx,rfl,_⟩:=QC;obtain⟨gN,hG⟩:∃gN,gN=Nat.gcd x.natAbs y.natAbs:=⟨_,rfl⟩;rw[<-hG];have HG:af (Nat.gcd (val la) (val lb)=gN):=by show _=_;rw[xU,Dv,hG]
 have yS:=G yR;have EI:=G pK;have EG:=G uj;have Xe:=G qZ;have hlb:val lb<1000000000:=I;generalize vo:decide (x<0)=gU at*;generalize hny:decide (y<0)=nV at*;obtain⟨w3,dF⟩:∃w3:Y,w3=((w.alloc (ag #[gU,O Ax nx cx] 46)).alloc (ag #[nV,O Ay ny cy] 46)).alloc (ag #[X,O J 0 0] 46):=⟨_,rfl⟩;have bC:af (aj w w w3):=by exact TG
 have fM:w3.heap.size=w.heap.size+3:=KG;have K0:af (ai w3 w 46 #[gU,O Ax nx cx]):=by show ai _ _ _ _;rw[dF];exact((ai.new w _ _).alloc _).alloc _
 have K1:af (ai w3 (w.heap.size+1) 46 #[nV,O Ay ny cy]):=by exact akz
 have K2:af (ai w3 (w.heap.size+2) 46 #[X,O J 0 0]):=by exact aky
 clear yR pK uj qZ xU Dv vo hny hG Co;go_enter func132,ntmps132;go_upto_region 1 with fail;rw[<-dF];clear dF;have x1:w3.cell? ⟨w,1,J⟩=N (O Ax nx cx):=K0.cell 1;have x2:w3.cell? ⟨w.heap.size+1,1,J⟩=N (O Ay ny cy):=K1.cell 1;go_quiet(fail);clear x1 x2;go_wp2_with fail;go_loopg [5,6] (val lb) (λg av bv wr=>∃la lb,gB wr wr av la/\gB wr wr bv lb/\Can la/\Can lb/\val lb<1000000000/\val lb<=g/\Nat.gcd (val la) (val lb)=gN/\aj w3 w3 wr);case atStart=>
  have gX:aj w3 w3 (w3.drewN nq):=below_drewN (aN _ _) _;refine⟨la,lb,?_,?_,EG,Xe,hlb,aC _,HG,gX⟩;·exact((yS.below (bC.mono hB)).below (gX.mono I)).more (by have:=gX.size;omega)
  exact((EI.below (bC.mono hB)).below (gX.mono I)).more (by have:=gX.size;omega)
 obtain⟨ma,mb,h1,h2,h3,h4,h5,h6,h7,aH⟩:=hrel;obtain⟨wo,rfl⟩:=dz wr;have H1:=G h1;have H2:=G h2;have H3:=G h3;have H4:=G h4;have H7:=G h7;have bA:=G aH;obtain⟨A1,n1,c1,rfl,_⟩:=h1;obtain⟨A2,n2,c2,rfl,qM,_⟩:=h2;clear h3 h4 h7 aH;rcases sw n2 with rfl|h0
 ·have e0:mb= []:=O0 qM;have FG:af (val ma=gN):=by have:=H7;rw[e0] at this;show _=_;rw[<-this];simp[val]
  clear e0;go_wp2_with fail;refine(Tz X _ ma wo wo H1 (aC _) H3.1).mono ?_;rintro e' w4 ⟨⟨nv,mv,rfl,hi4⟩,bu⟩;have e1:vQ X ma=(gN:Int):=by unfold vQ;rw[FG.E];rfl
  rw[e1] at hi4;have Dw:=G hi4;obtain⟨rfl,l4,⟨A4,n4,c4,rfl,_⟩,_⟩:=hi4;have Bo:aj w3 w3 w4:=bA.trans (bu.mono bA.size);have Cq:=K2.below Bo I;have z0:w4.cell? ⟨w.heap.size+2,0,J⟩=N (ax X):=Cq.cell 0;have z1:w4.cell? ⟨w.heap.size+2,1,J⟩=N (O J 0 0):=Cq.cell 1;have zf:=Cq.frozen;have KK:=G Cq;have dE:=G Bo;have rH:=bu.size;generalize decide ((gN:Int)<0)=sg at*;clear bu Bo Cq e1;(try dsimp only[uU]);go_wp2_with fail;have e2:(w4.setCell ⟨w.heap.size+2,0,J⟩ (ax sg)).cell? ⟨w.heap.size+2,1,J⟩=N (O J 0 0):=Y6;have iL:=set2 (a':=ax sg) (b':=O A4 n4 c4) KK;have eH:=Cm (a:=ax sg) (b:=O A4 n4 c4) (g:=w.heap.size+2) (bC.trans (dE.mono I)) I;have Ma:=(Dw.store z0 (λ_ h=>nomatch h) (ax sg)).store e2 (λ_ h=>nomatch h) (O A4 n4 c4);exact eX (awv iL rfl rfl) rfl ⟨⟨_,_,rfl,Ma.more Fe⟩,eH⟩
 have k0:decide ((n2:Int)>0)=Z:=by rw[decide_eq_true_eq];omega
 have Bc:val mb≠0:=akm H4 (λe=>by rw[e] at qM;simp at qM;omega);have e1:=akj H4 h5 Bc;have H2':af (gB wo wo (O A2 n2 c2) [val mb]):=by show gB _ _ _ _;rw[<-e1];exact H2
 go_wp2_with fail;refine(akw _ _ ma (val mb) wo wo H1 H2' (aC _) H3 I h5).mono ?_;rintro e' w4 ⟨q,r,qv,rv,rfl,m1,m2,m3,m4,m5,m6,bu⟩;have wR:=G m2;have zF:=G m4;have wU:=G m6;have dE:=G bu;obtain⟨A4,n4,c4,rfl,g1,g2,g3,g4⟩:=m2;have HG4:=G g4;clear m1 m3 m4 m5 m6 bu g4;go_wp2_with fail;refine(akl A4 n4 c4 r w4 w4 HG4 g1 g2 g3 zF).mono ?_;rintro e' w5 ⟨rfl,k,hk,rfl,jR,hvk⟩;have nR:=G jR;have HVK:=G hvk;have aO:val r<val mb:=by rw[wU.E];exact EF _ I
 clear jR hvk;go_wp2_with fail;go_roundg (val r);case measure=>omega
 refine⟨mb,r.take k,(H2.below dE).more dE.size,gB.take HG4 g1 g2 g3 hk,H4,nR,by rw[HVK.E];omega,by rw[HVK.E];exact aC _,?_,bA.trans (dE.mono bA.size)⟩;rw[HVK.E,wU.E,aww];exact H7
def GA(a b:List Nat)(i:Nat)(out:List Nat):Prop:=
 out.length=a.length+b.length/\jW out/\val out=val (a.take i)*val b/\∀j,i+b.length<=j->j<a.length+b.length->out[j]?=N 0
def Ow(a b:List Nat)(i k x c:Nat)(out:List Nat):Prop:=
 out.length=a.length+b.length/\jW out/\c<1000000000/\val out+BB ^ (i+k)*c=val (a.take i)*val b+BB ^ i*(x*val (b.take k))/\∀j,i+b.length<=j->j<a.length+b.length->out[j]?=N 0
theorem GA.start(a b:List Nat):GA a b 0 (nU (a.length+b.length) 0):=by refine⟨Xd,jW.zeros _,by rw[akd];simp[val],λj h1 h2=>?_⟩;rw[List.getElem?_replicate,if_pos h2]
theorem GA.inner{a b:List Nat}{x:Nat}(h:GA a b i out):Ow a b i 0 x 0 out:=by obtain⟨h1,h2,h3,h4⟩:=h;exact⟨h1,h2,I,by rw[h3];simp[val],h4⟩
theorem Ow.step{a b:List Nat}{x y o:Nat}(h:Ow a b i k x c out)(hi:i<a.length)(hk:b[k]?=N y)(ho:out[i+k]?=N o):
  Ow a b i (k+1) x ((x*y+o+c)/1000000000) (out.set (i+k) ((x*y+o+c)%1000000000))\/¬((x*y+o+c)/1000000000<1000000000):=by
 rcases jl ((x*y+o+c)/1000000000) 1000000000 with hq|hq;case inr=>exact .inr I
 obtain⟨h1,h2,h3,h4,h5⟩:=h;refine .inl ⟨YO,h2.set _ (EF _ Dq),hq,?_,λj g1 g2=>?_⟩
 ·have e1:=adF out (i+k) o ((x*y+o+c)%1000000000) ho;have e2:=Qx b k y hk;have e3:(x*y+o+c)%1000000000+BB*((x*y+o+c)/1000000000)=x*y+o+c:=by show(x*y+o+c)%1000000000+1000000000*((x*y+o+c)/1000000000)=x*y+o+c;omega
  generalize(x*y+o+c)%1000000000=r at*;generalize(x*y+o+c)/1000000000=q at*;rw[e2,show i+(k+1)=(i+k)+1 from rfl,Nat.pow_succ,L9 (BB ^ (i+k)) BB q];have e4:BB ^ (i+k)*r+BB ^ (i+k)*(BB*q)=BB ^ (i+k)*(x*y)+BB ^ (i+k)*o+BB ^ (i+k)*c:=by rw[<-zL,e3,zL,zL]
  have e5:BB ^ i*(x*(val (b.take k)+BB ^ k*y))=BB ^ i*(x*val (b.take k))+BB ^ (i+k)*(x*y):=by rw[zL,zL,Nat.pow_add];congr 1;rw[Nat.mul_left_comm x (BB ^ k) y,L9]
  rw[e5];generalize BB ^ (i+k)*(BB*q)=t1 at*;generalize BB ^ (i+k)*r=t2 at*;generalize BB ^ (i+k)*o=t3 at*;generalize BB ^ (i+k)*c=t4 at*;generalize BB ^ (i+k)*(x*y)=t5 at*;omega
 have hb:k<b.length:=by
  rcases jl k b.length with z|z;·exact z
  rw[Ot z] at hk;cases hk
 rw[Xf I];exact h5 j g1 g2
theorem awy{x y o:Nat}(hx:x<1000000000)(hy:y<1000000000)(ho:o<1000000000)(hc:c<1000000000):x*y<=999999998000000001/\(x*y+o+c)/1000000000<1000000000:=by have h1:x*y<=999999999*999999999:=Nat.mul_le_mul I I;have h2:x*y<=999999998000000001:=h1;refine⟨h2,?_⟩;rw[Nat.div_lt_iff_lt_mul I];omega
theorem Ow.last{a b:List Nat}{x:Nat}(h:Ow a b i b.length x c out)(hi:i<a.length)(hx:a[i]?=N x):out[i+b.length]?=N 0/\GA a b (i+1) (out.set (i+b.length) c):=by
 obtain⟨h1,h2,h3,h4,h5⟩:=h;have h0:=h5 (i+b.length) (aC _) I;refine⟨h0,YO,h2.set _ h3,?_,λj g1 g2=>?_⟩;·have e1:=adF out (i+b.length) 0 c h0;rw[Oq,mZ] at e1;rw[e1,h4,Qx a i x hx,Nat.add_mul,Nb,L9]
 rw[Xf I];exact h5 j I g2
theorem GA.same{a b:List Nat}{x:Nat}(h0:out[i+b.length]?=N 0):out.set (i+b.length) 0=out:=by
 have:i+b.length<out.length:=by
  rcases jl (i+b.length) out.length with z|z;·exact z
  rw[Ot z] at h0;cases h0
 rw[wu this] at h0;apply List.ext_getElem?;intro j;rcases sU (j=i+b.length) with e|e;·rw[e,List.getElem?_set_self this,wu this,Jt h0]
 rw[Xf I]
def awz(la lb:List Nat)(w:Y)(e:Ending)(w':Y):Prop:=
 ∃out ov,e=aI ov/\gB w' w' ov out/\jW out/\val out=val la*val lb/\aj w w w'
theorem awC(a b:ak)(la lb:List Nat)(B:Nat)(w:Y)(ha:gB w B a la)(hb:gB w B b lb)(hB:B<=w.heap.size)(ma:jW la)(mb:jW lb)(bV:la.length+lb.length<=1000):
  aF aa 244 #[a,b] w (awz la lb w):=by
 obtain⟨A,n,c,rfl,hl,DT,hc,hr⟩:=ha;obtain⟨A',n',c',rfl,zM,hnc',sO,tK⟩:=hb;have Gz:=akv (n+n') I;rw[Int.natCast_add] at Gz;have HR:=G hr;have IX:=G tK;have yS:=G ma;have EI:=G mb;have HL:=G hl;have tq:=G zM;have aT:=(aN w w).alloc (aC _) (ag (jX (nU (n+n') 0)) 182);have aP:=G aT;have qV:=G (ai.new w 182 (jX (nU (n+n') 0)));have gP:af (GA la lb 0 (nU (n+n') 0)):=by have:=GA.start la lb;rw[hl,zM] at this;exact this
 have hnn:n+n'<=1000:=I;clear hr tK hl zM aT ma mb bV;go_enter func244,ntmps244;go_wp2_with fail;go_loopw [22] (λiv wr=>∃(i:Nat) (out:List Nat),iv=C D (i:Int)/\i<=n/\GA la lb i out/\ai wr w 182 (jX out)/\aj w w wr) (λiv _=>n-(intOf iv).toNat);case atStart=>exact⟨0,_,rfl,FI _,gP,qV,aP⟩
 obtain⟨i,out,rfl,hi,wX,dU,aH⟩:=hrel;obtain⟨wo,rfl⟩:=dz wr;have HI:=G wX;have uk:=G dU;have bA:=G aH;clear wX dU aH;by_cases aO:i<n;case neg=>have k3:decide ((i:Int)<(n:Int))=X:=fI;obtain rfl:i=n:=I;go_wp2_with fail;go_ret;obtain⟨j1,j2,j3,_⟩:=HI;have hm:=gB.blk uk (by rw[j1,HL.E,tq.E];omega);rw[j1,HL.E,tq.E] at hm;exact⟨out,_,rfl,hm,j2,by rw[j3,<-HL.E,Nb],bA⟩
 have b3:(i:Int)<(n:Int):=I;obtain⟨ad,x,rfl,_,hx,hcx⟩:=(HR.below (bA.mono hB)).Gx (k:=i) I;have pM:x<1000000000:=yS.get hx;have HX:=G hx;clear hx;go_wp2_with fail;go_loopw [8,29] (λcv kv wr=>∃(k cy:Nat) (out:List Nat),cv=C .u64 (cy:Int)/\kv=C D (k:Int)/\k<=n'/\Ow la lb i k x cy out/\ai wr w 182 (jX out)/\aj w w wr) (λ_ kv _=>n'-(intOf kv).toNat);case atStart=>exact⟨0,0,out,rfl,rfl,FI _,HI.inner,uk,bA⟩
 obtain⟨k,cy,vR,rfl,rfl,hk,adO,jM,akA⟩:=hrel;obtain⟨wp,rfl⟩:=dz wr;have sV:=G adO;have akB:=G jM;have adP:=G akA;have hcy:cy<1000000000:=adO.2.2.1;clear adO akA;by_cases aDh:k<n';case pos=>have b4:(k:Int)<(n':Int):=I;obtain⟨Hf,y,rfl,_,hy,aDi⟩:=(IX.below (adP.mono hB)).Gx (k:=k) I;have hyb:y<1000000000:=EI.get hy;have hoj:∃o,vR[i+k]?=N o:=⟨vR[i+k]'(by rw[sV.E.1,HL.E,tq.E];omega),wu _⟩;obtain⟨o,ho⟩:=hoj;have hob:o<1000000000:=sV.2.1.get ho;have z0:=(jM.cell (i+k)).trans (TA vR (i+k) o ho);have zf:=jM.frozen (i+k);obtain⟨hp,hq⟩:=awy pM hyb hob hcy;have HS:=G ((sV.step zW hy ho).resolve_right (λh=>h hq));have vI:(x:Int)*(y:Int)=((x*y:Nat):Int):=(Int.natCast_mul x y).symm;generalize x*y=pr at*;have q0:IY ((pr:Int)+(o:Int)+(cy:Int)) 1000000000=(((pr+o+cy)%1000000000:Nat):Int):=rfl;have q1:rR ((pr:Int)+(o:Int)+(cy:Int)) 1000000000=(((pr+o+cy)/1000000000:Nat):Int):=rfl;have q2:(pr+o+cy)%1000000000<1000000000:=EF _ I;have b5:(i:Int)+(k:Int)<(n:Int)+(n':Int):=I;clear jM hy ho;generalize(pr+o+cy)%1000000000=r2 at*;generalize(pr+o+cy)/1000000000=c2 at*;go_wp2_with fail;have hz:=akB.bL (i+k) (C .u32 (r2:Int));rw[QA] at hz;exact⟨⟨k+1,c2,vR.set (i+k) r2,rfl,bR,I,HS,hz,adP.setCell (p:=⟨w.heap.size,i+k,J⟩) (aC _) _⟩,bW⟩
 obtain rfl:k=n':=I;obtain⟨fu,hlast⟩:=(show Ow la lb i lb.length x cy vR from by rw[tq.E];exact sV).last zW HX;rw[tq.E] at fu hlast;have Qr:=G hlast;have Cr:=G fu;clear hlast fu jM;go_wp2_with fail;go_loopw [8,12] (λcv kv wr=>∃(cc kk:Nat) (Kg:List Nat),cv=C .u64 (cc:Int)/\kv=C D (kk:Int)/\ai wr w 182 (jX Kg)/\aj w w wr/\((cc=cy/\kk=i+k/\Kg=vR)\/(cc=0/\kk=i+k+1/\GA la lb (i+1) Kg))) (λcv _ _=>(intOf cv).toNat);case atStart=>exact⟨cy,i+k,vR,rfl,bR,akB,adP,.inl ⟨rfl,rfl,rfl⟩⟩
 obtain⟨cc,kk,Kg,rfl,rfl,Qt,akC,hor⟩:=hrel;obtain⟨wq,rfl⟩:=dz wr;have akD:=G Qt;have Xg:=G akC;clear akC;rcases sw cc with rfl|gT
 ·have F:af (GA la lb (i+1) Kg):=by
   rcases hor with⟨rfl,_,rfl⟩|⟨_,_,h⟩
   ·have h1:=Qr
    have h2:=GA.same (a:=la) (b:=lb) (x:=0) (show Kg[i+lb.length]?=N 0 by rw[tq.E];exact Cr)
    rw[tq.E] at h2
    rw[h2] at h1
    exact h1
   exact h
  clear hor Qt
  go_wp2_with fail
  exact⟨⟨i+1,Kg,bR,I,F,akD,Xg⟩,bW⟩
 obtain⟨rfl,rfl,rfl⟩:cc=cy/\kk=i+k/\Kg=vR:=by
  rcases hor with h|⟨h,_⟩;·exact h
  omega
 have z0:=(Qt.cell (i+k)).trans (TA Kg (i+k) 0 Cr);have zf:=Qt.frozen (i+k);have q0:IY (cc:Int) 1000000000=(cc:Int):=Int.tmod_eq_of_lt I I;have q1:rR (cc:Int) 1000000000=0:=Int.tdiv_eq_zero_of_lt I I;have b5:(i:Int)+(k:Int)<(n:Int)+(k:Int):=I;clear hor Qt;go_wp2_with fail;have hz:=akD.bL (i+k) (C .u32 (cc:Int));rw[QA] at hz;exact⟨⟨0,i+k+1,Kg.set (i+k) cc,rfl,bR,hz,Xg.setCell (p:=⟨w.heap.size,i+k,J⟩) (aC _) _,.inr ⟨rfl,rfl,Qr⟩⟩,bW⟩
theorem akE(n c:Nat)(DT:n<=c)(hn:c<=1000001)(W:Y):(Instr.makeSlice 44 (C D (n:Int)) (C D (c:Int))).run aa W= .ok (O W n c) (W.alloc (ag (jX (nU c 0)) 182)):=by
 obtain⟨i,hi,hz,hs,hb⟩:=akt;have hr:=run_make (P:=aa) W 44 182 i (C .u32 0) underlying44 hi hz .i64 .i64 n c I I (by rw[hb];omega) I;simp only[Int.toNat_natCast,hs,Oo] at hr;rw[hr];have e:madeCells (C .u32 0).cells c=jX (nU c 0):=by exact aku
 rw[e]
theorem akF:∀(l pre post:List Nat),l.length<=post.length->ai w g 182 (jX (pre++post))->ai (w.setCells g pre.length (jC l)) g 182 (jX (pre++(l++post.drop l.length))):=by
 intro l;induction l generalizing w with
 |nil=>intro pre post _ h;simpa[jC,World.setCells] using h
 |cons x r ih=>
  intro pre post hl h;cases post with
  |nil=>simp at hl
  |cons y post=>have h1:=h.bL pre.length (C .u32 (x:Int));rw[QA,List.set_append_right _ _ (aC _),Nat.sub_self,oh] at h1;have e1:pre++x::post=(pre++ [x])++post:=aG;rw[e1] at h1;have h2:=ih (pre++ [x]) post (by simpa using hl) h1;rw[eB,mf] at h2;have e2:pre++(x::r++(y::post).drop (x::r).length)=(pre++ [x])++(r++post.drop r.length):=aG;rw[e2];exact h2
theorem akG(hg:B<=g):∀(l:List ak) (o:Nat) (w:Y),aj B w0 w->aj B w0 (w.setCells g o l):=by
 intro l;induction l with
 |nil=>intro o w h;exact h
 |cons x r ih=>intro o w h;exact ih (o+1) _ (h.setCell (p:=⟨g,o,J⟩) hg x)
def IZ(a b:List Nat)(i c:Nat)(cK:List Nat):Prop:=
 cK.length=a.length+1/\jW cK/\c<=1/\val (cK.take i)+BB ^ i*c=val (a.take i)+val (b.take i)/\∀j,i<=j->j<a.length->cK[j]?=a[j]?
theorem IZ.start(a b:List Nat)(ha:jW a):IZ a b 0 0 (a++ [0]):=by refine⟨aG,ha.app Dq,I,RF,λj _ hj=>?_⟩;rw[List.getElem?_append_left hj]
theorem IZ.step{a b:List Nat}{x y:Nat}{cK:List Nat}(h:IZ a b i c cK)(hi:i<a.length)(ha:jW a)(hb:jW b)(hx:a[i]?=N x)(hy:(b[i]?=N y)\/(b.length<=i/\y=0)):
  IZ a b (i+1) ((x+c+y)/1000000000) (cK.set i ((x+c+y)%1000000000))/\x<1000000000/\y<1000000000/\(x+c+y)/1000000000<=1:=by
 obtain⟨h1,h2,h3,h4,h5⟩:=h;have pM:x<1000000000:=ha.get hx;have hyb:y<1000000000:=by
  rcases hy with h|h;·exact hb.get h
  omega
 have hq:(x+c+y)/1000000000<=1:=I;refine⟨⟨YO,h2.set _ (EF _ Dq),hq,?_,λj g1 g2=>?_⟩,pM,hyb,hq⟩
 ·have e1:(cK.set i ((x+c+y)%1000000000))[i]?=N ((x+c+y)%1000000000):=by rw[List.getElem?_set_self I]
  have e2:=Qx _ i _ e1;have e3:(cK.set i ((x+c+y)%1000000000)).take i=cK.take i:=by rw[List.take_set_of_le (aC _)]
  have e4:=Qx a i x hx;have e5:val (b.take (i+1))=val (b.take i)+BB ^ i*y:=by
   rcases hy with h|⟨h,h0⟩;·exact Qx b i y h
   rw[o7 I,o7 h,h0];simp
  rw[e2,e3,e4,e5,Nat.pow_succ,L9 (BB ^ i) BB];have e6:(x+c+y)%1000000000+BB*((x+c+y)/1000000000)=x+c+y:=by show(x+c+y)%1000000000+1000000000*((x+c+y)/1000000000)=x+c+y;omega
  generalize(x+c+y)%1000000000=r at*;generalize(x+c+y)/1000000000=q at*;have e7:BB ^ i*r+BB ^ i*(BB*q)=BB ^ i*x+BB ^ i*c+BB ^ i*y:=by rw[<-zL,e6,zL,zL]
  generalize BB ^ i*(BB*q)=t1 at*;generalize BB ^ i*r=t2 at*;generalize BB ^ i*x=t3 at*;generalize BB ^ i*c=t4 at*;generalize BB ^ i*y=t5 at*;omega
 rw[Xf I];exact h5 j I g2
theorem IZ.fin{a b:List Nat}{cK:List Nat}(h:IZ a b i c cK)(hb:b.length<=a.length)(hi:i<=a.length)(he:i=a.length\/(b.length<=i/\c=0)):
  val (cK.take a.length)+BB ^ a.length*c=val a+val b:=by
 obtain⟨h1,_,h3,h4,h5⟩:=h;rcases he with rfl|⟨h,rfl⟩;·rw[h4,Nb,o7 hb]
 have e1:cK.take a.length=cK.take i++a.drop i:=by
  apply List.ext_getElem?;intro j;rw[List.getElem?_take,List.getElem?_append,xq,Nc I,List.getElem?_take,List.getElem?_drop];rcases jl j i with g|g;·rw[if_pos I,if_pos g,if_pos g]
  rw[if_neg (by omega:¬j<i)];rcases jl j a.length with g2|g2;·rw[if_pos g2,h5 j g g2];congr 1;omega
  rw[if_neg I];rw[Ot I]
 have e2:=aaz a i hi;rw[e1,val_append,xq,Nc I,Oq,mZ];rw[Oq,mZ,o7 h] at h4;omega
def awD(la lb:List Nat)(w:Y)(e:Ending)(w':Y):Prop:=
 ∃out ov,e=aI ov/\gB w' w' ov out/\jW out/\val out=val la+val lb/\aj w w w'
theorem aaD{cK:List Nat}(h:ai w g 182 (jX cK))(hR:cK.length=n+1)(hn:n<=1000000):w.ownsRow g 182 1 (O g n (n+1)) n (jC (cK.take n)):=by refine⟨by rw[IU,xq];omega,.inr ⟨g,n+1,jX cK,rfl,aC _,h,I,by unfold maxLen;omega,by rw[aks,hR];omega,?_⟩⟩;unfold jX jC;rw[Oo,List.map_take]
theorem akH(h:R:=by have HS:=G hS;have q0:IY ((x:Int)+(cy:Int)+(y:Int)) 1000000000=(((x+cy+y)%1000000000:Nat):Int):=rfl;have q1:rR ((x:Int)+(cy:Int)+(y:Int)) 1000000000=(((x+cy+y)/1000000000:Nat):Int):=rfl;have q2:(x+cy+y)%1000000000<1000000000:=EF _ I;clear dU hx TH hy hS hcx aaE;generalize(x+cy+y)%1000000000=r2 at*;generalize(x+cy+y)/1000000000=cq at*;go_wp2_with fail;have hz:=uk.bL i (C .u32 (r2:Int));rw[QA] at hz;exact⟨⟨i+1,cq,cK.set i r2,rfl,bR,I,HS,hz,bA.setCell (p:=⟨w,i,J⟩) (aC _) _⟩,bW⟩):R:=h
theorem akI(h:R:=by rw[val_append,xq,AP.E,Nc I];have e1:val [cy]=cy:=RF;rw[e1];exact hv):R:=h
theorem akJ(h:R:=by rw[hk.cell (0+j),Nat.zero_add,TA _ j 0 (by rw[List.getElem?_replicate,if_pos I])];rfl):R:=h
theorem akK(h:R:=by rw[Oq,mZ] at hv;exact⟨cK.take n',_,rfl,Qh,HI.2.1.take n',hv,bA⟩):R:=h
theorem akL(h:R:=by rw[Oq,mZ] at hv;exact⟨cK.take n,_,rfl,Qh,HI.2.1.take n,hv,bA⟩):R:=h
theorem awE(a b:ak)(la lb:List Nat)(B:Nat)(w:Y)(ha:gB w B a la)(hb:gB w B b lb)(hB:B<=w.heap.size)(ma:jW la)(mb:jW lb)(hsa:la.length<=1000)(hsb:lb.length<=1000):
  aF aa 295 #[a,b] w (awD la lb w):=by
 obtain⟨A,n,c,rfl,hl,_,hc,hr⟩:=ha;obtain⟨A',n',c',rfl,zM,_,sO,tK⟩:=hb;have HR:=G hr;have IX:=G tK;have yS:=G ma;have EI:=G mb;have HL:=G hl;have tq:=G zM;have wG:n<=1000:=I;have Gb:n'<=1000:=I;clear hr tK hl zM ma mb hsa hsb;rcases jl n n' with hsw|hsw;case inl=>
  have Gz:=akE n' (n'+1) I I;rw[Int.natCast_add] at Gz;simp only[Int.natCast_one] at Gz;have hcp:∀(W:Y) (ty:bM),Reads W B 1 A' n' (jC lb)->ai W w 182 (jX (nU (n'+1) 0))->(Builtin.copy_ #[44,44] ty #[O w n' (n'+1),O A' n' c']).run aa W= .ok (goInt n') (W.setCells w 0 (jC lb)):=by
   intro W ty hr hk;have bV:(aa.info? 182).map (·.size)=N 1:=dh;rcases sw n' with h0|h0;·have e0:lb= []:=O0 (by rw[tq.E];exact h0);have:=run_copy_none (P:=aa) W 44 44 ty 182 (N ⟨w,0,J⟩) A' n' (n'+1) n' c' underlying44 bV ((Nat.min_self n').trans h0);rw[this,e0,h0];rfl
   obtain⟨ad,rfl,_,uf⟩:=hr.2 h0;have h1:∀j,j<(jC lb).length->(W.cell? ⟨w.heap.size,0+j,J⟩).isSome=Z:=by intro j hj;rw[IU,tq.E] at hj;exact akJ
   have:=run_copy_cells (P:=aa) W 44 44 ty 182 w 0 n' (n'+1) ad n' c' (jC lb) underlying44 bV (by rw[IU,tq.E];exact(Nat.min_self _).symm) uf h1 (λj _=>hk.frozen _) (λv hv=>by unfold jC at hv;obtain⟨y,_,rfl⟩:=qw.1 hv;rfl);rw[this,IU,tq.E]
  have aT:=(aN w w).alloc (aC _) (ag (jX (nU (n'+1) 0)) 182);have aP:=G aT;have qV:=G (ai.new w 182 (jX (nU (n'+1) 0)));have hcp1:=λty=>hcp _ ty (IX.alloc hB _) qV;clear hcp aT;go_enter func295,ntmps295;go_upto_region 5 with fail;have HBc:af (aj w w ((w.alloc (ag (jX (nU (n'+1) 0)) 182)).setCells w 0 (jC lb))):=akG (aC _) _ _ _ aP;have HKc:af (ai ((w.alloc (ag (jX (nU (n'+1) 0)) 182)).setCells w 0 (jC lb)) w 182 (jX (lb++ [0]))):=by
   have h1:=akF lb [] (nU (n'+1) 0) (by rw[Xd,tq.E];omega) qV;have e1:(nU (n'+1) 0).drop lb.length= [0]:=by rw[List.drop_replicate,tq.E,show n'+1-n'=1 from by omega];rfl
   rw[e1] at h1;exact h1
  generalize World.setCells _ w 0 (jC lb)=wc at*;clear hcp1 Gz;go_wp2_with fail;go_loopw [6,27] (λcv iv wr=>∃(i cy:Nat) (cK:List Nat),cv=C .u32 (cy:Int)/\iv=C D (i:Int)/\i<=n'/\IZ lb la i cy cK/\ai wr w 182 (jX cK)/\aj w w wr) (λ_ iv _=>n'-(intOf iv).toNat);case atStart=>exact⟨0,0,lb++ [0],rfl,rfl,FI _,IZ.start lb la EI,HKc,HBc⟩
  obtain⟨i,cy,cK,rfl,rfl,hi,wX,dU,aH⟩:=hrel;obtain⟨wo,rfl⟩:=dz wr;have HI:=G wX;have uk:=G dU;have bA:=G aH;have eP:=aH.size;have LM:=dU.lt;have hcy:=wX.2.2.1;clear wX aH;have BS:af ((i=n'\/(n<=i/\cy=0))->val (cK.take n')+BB ^ n'*cy=val la+val lb):=by intro he;have:=HI.fin (by rw[tq.E,HL.E];omega) (by rw[tq.E];exact hi) (by rw[tq.E,HL.E];exact he);rw[tq.E] at this;rw[this];omega
  have AP:af (cK.length=n'+1):=by show _=_;rw[HI.E.1,tq.E]
  have Qh:af (gB wo wo (O w n' (n'+1)) (cK.take n')):=gB.own (aaD uk AP I) I;by_cases aO:i<n';case neg=>
   have ig:i=n':=I;rcases sw cy with rfl|Iq;·go_wp2_with fail;go_ret;have hv:=BS (.inl ig);exact akK
   obtain⟨i0,gz,fu,gq,fG⟩:=info_parts aaB;have HO:=G (aaD uk AP (show n'<=1000000 by omega));clear dU;go_wp2_with(at_builtin;refine pX _ rfl (.tmp 64) (.tmp 66) _ rfl w.heap.size 182 i0 _ 1 4 underlying44 gz fu gq fG rfl I _ n' (jC (cK.take n')) rfl (HO.alloc _) (wo.heap.size+1) (N ⟨wo,0,J⟩) 1 1 [C .u32 (cy:Int)] rfl (mX wo #[C .u32 (cy:Int)] 182 1 rfl) rZ lH I bB ?_;intro v6 w6 dw bU iT;obtain⟨A6,c6,rfl⟩:=eO dw;have oL:=G (bI dw (bI bU iT));clear dw bU iT);go_ret;obtain⟨dw,bU,_⟩:=oL;have hv:=BS (.inl ig);refine⟨cK.take n'++ [cy],_,rfl,gB.own (by rw[adL];exact dw) I,(HI.2.1.take n').app (by show cy<1000000000;omega),?_,bA.trans (((aN _ _).alloc eP _).trans (adM (HO.alloc _) bU bB))⟩;exact akI
  have b3:(i:Int)<(n':Int):=I;obtain⟨adx,x,aaE,_,hx,hcx⟩:=(IX.below (bA.mono hB)).Gx (k:=i) I;have TH:cK[i]?=N x:=by rw[HI.E.2.2.2.2 i (aC _) abM,hx]
  have z0:=(dU.cell i).trans (TA cK i x TH);have zf:=dU.frozen i;rcases jl i n with hib|hib;case inl=>have b5:(i:Int)<(n:Int):=I;obtain⟨ady,y,rfl,_,hy,awF⟩:=(HR.below (bA.mono hB)).Gx (k:=i) I;obtain⟨hS,pM,hyb,TB⟩:=HI.step abM EI yS hx (.inl hy);exact akH
  rcases sw cy with rfl|Iq;·go_wp2_with fail;go_ret;have hv:=BS afp;exact akK
  have k8:((cy:Int)==0)=X:=by have:(cy:Int)≠0:=I;simpa using this
  obtain⟨hS,pM,_,TB⟩:=HI.step (y:=0) abM EI yS hx (.inr ⟨by rw[HL.E];exact hib,rfl⟩);rw[mZ] at hS TB;have HS:=G hS;have q0:IY ((x:Int)+(cy:Int)) 1000000000=(((x+cy)%1000000000:Nat):Int):=rfl;have q1:rR ((x:Int)+(cy:Int)) 1000000000=(((x+cy)/1000000000:Nat):Int):=rfl;have q2:(x+cy)%1000000000<1000000000:=EF _ I;clear dU hx TH hS hcx aaE;generalize(x+cy)%1000000000=r2 at*;generalize(x+cy)/1000000000=cq at*;go_wp2_with fail;have hz:=uk.bL i (C .u32 (r2:Int));rw[QA] at hz;exact⟨⟨i+1,cq,cK.set i r2,rfl,bR,I,HS,hz,bA.setCell (p:=⟨w,i,J⟩) (aC _) _⟩,bW⟩
 have k0':decide (n<n')=X:=fI;have Gz:=akE n (n+1) I I;rw[Int.natCast_add] at Gz;simp only[Int.natCast_one] at Gz;have hcp:∀(W:Y) (ty:bM),Reads W B 1 A n (jC la)->ai W w 182 (jX (nU (n+1) 0))->(Builtin.copy_ #[44,44] ty #[O w n (n+1),O A n c]).run aa W= .ok (goInt n) (W.setCells w 0 (jC la)):=by
  intro W ty hr hk;have bV:(aa.info? 182).map (·.size)=N 1:=dh;rcases sw n with h0|h0;·have e0:la= []:=O0 (by rw[HL.E];exact h0);have:=run_copy_none (P:=aa) W 44 44 ty 182 (N ⟨w,0,J⟩) A n (n+1) n c underlying44 bV ((Nat.min_self n).trans h0);rw[this,e0,h0];rfl
  obtain⟨ad,rfl,_,uf⟩:=hr.2 h0;have h1:∀j,j<(jC la).length->(W.cell? ⟨w.heap.size,0+j,J⟩).isSome=Z:=by intro j hj;rw[IU,HL.E] at hj;exact akJ
  have:=run_copy_cells (P:=aa) W 44 44 ty 182 w 0 n (n+1) ad n c (jC la) underlying44 bV (by rw[IU,HL.E];exact(Nat.min_self _).symm) uf h1 (λj _=>hk.frozen _) (λv hv=>by unfold jC at hv;obtain⟨y,_,rfl⟩:=qw.1 hv;rfl);rw[this,IU,HL.E]
 have aT:=(aN w w).alloc (aC _) (ag (jX (nU (n+1) 0)) 182);have aP:=G aT;have qV:=G (ai.new w 182 (jX (nU (n+1) 0)));have hcp1:=λty=>hcp _ ty (HR.alloc hB _) qV;clear hcp aT;go_enter func295,ntmps295;go_upto_region 5 with fail;have HBc:af (aj w w ((w.alloc (ag (jX (nU (n+1) 0)) 182)).setCells w 0 (jC la))):=akG (aC _) _ _ _ aP;have HKc:af (ai ((w.alloc (ag (jX (nU (n+1) 0)) 182)).setCells w 0 (jC la)) w 182 (jX (la++ [0]))):=by
  have h1:=akF la [] (nU (n+1) 0) (by rw[Xd,HL.E];omega) qV;have e1:(nU (n+1) 0).drop la.length= [0]:=by rw[List.drop_replicate,HL.E,show n+1-n=1 from by omega];rfl
  rw[e1] at h1;exact h1
 generalize World.setCells _ w 0 (jC la)=wc at*;clear hcp1 Gz;go_wp2_with fail;go_loopw [6,27] (λcv iv wr=>∃(i cy:Nat) (cK:List Nat),cv=C .u32 (cy:Int)/\iv=C D (i:Int)/\i<=n/\IZ la lb i cy cK/\ai wr w 182 (jX cK)/\aj w w wr) (λ_ iv _=>n-(intOf iv).toNat);case atStart=>exact⟨0,0,la++ [0],rfl,rfl,FI _,IZ.start la lb yS,HKc,HBc⟩
 obtain⟨i,cy,cK,rfl,rfl,hi,wX,dU,aH⟩:=hrel;obtain⟨wo,rfl⟩:=dz wr;have HI:=G wX;have uk:=G dU;have bA:=G aH;have eP:=aH.size;have LM:=dU.lt;have hcy:=wX.2.2.1;clear wX aH;have BS:af ((i=n\/(n'<=i/\cy=0))->val (cK.take n)+BB ^ n*cy=val la+val lb):=by intro he;have:=HI.fin (by rw[HL.E,tq.E];omega) (by rw[HL.E];exact hi) (by rw[HL.E,tq.E];exact he);rw[HL.E] at this;exact this
 have AP:af (cK.length=n+1):=by show _=_;rw[HI.E.1,HL.E]
 have Qh:af (gB wo wo (O w n (n+1)) (cK.take n)):=gB.own (aaD uk AP I) I;by_cases aO:i<n;case neg=>
  have ig:i=n:=I;rcases sw cy with rfl|Iq;·go_wp2_with fail;go_ret;have hv:=BS (.inl ig);exact akL
  obtain⟨i0,gz,fu,gq,fG⟩:=info_parts aaB;have HO:=G (aaD uk AP (show n<=1000000 by omega));clear dU;go_wp2_with(at_builtin;refine pX _ rfl (.tmp 64) (.tmp 66) _ rfl w.heap.size 182 i0 _ 1 4 underlying44 gz fu gq fG rfl I _ n (jC (cK.take n)) rfl (HO.alloc _) (wo.heap.size+1) (N ⟨wo,0,J⟩) 1 1 [C .u32 (cy:Int)] rfl (mX wo #[C .u32 (cy:Int)] 182 1 rfl) rZ lH I bB ?_;intro v6 w6 dw bU iT;obtain⟨A6,c6,rfl⟩:=eO dw;have oL:=G (bI dw (bI bU iT));clear dw bU iT);go_ret;obtain⟨dw,bU,_⟩:=oL;have hv:=BS (.inl ig);refine⟨cK.take n++ [cy],_,rfl,gB.own (by rw[adL];exact dw) I,(HI.2.1.take n).app (by show cy<1000000000;omega),?_,bA.trans (((aN _ _).alloc eP _).trans (adM (HO.alloc _) bU bB))⟩;exact akI
 have b3:(i:Int)<(n:Int):=I;obtain⟨adx,x,aaE,_,hx,hcx⟩:=(HR.below (bA.mono hB)).Gx (k:=i) I;have TH:cK[i]?=N x:=by rw[HI.E.2.2.2.2 i (aC _) zW,hx]
 have z0:=(dU.cell i).trans (TA cK i x TH);have zf:=dU.frozen i;rcases jl i n' with hib|hib;case inl=>have b5:(i:Int)<(n':Int):=I;obtain⟨ady,y,rfl,_,hy,awF⟩:=(IX.below (bA.mono hB)).Gx (k:=i) I;obtain⟨hS,pM,hyb,TB⟩:=HI.step zW yS EI hx (.inl hy);exact akH
 rcases sw cy with rfl|Iq;·go_wp2_with fail;go_ret;have hv:=BS afp;exact akL
 have k8:((cy:Int)==0)=X:=by have:(cy:Int)≠0:=I;simpa using this
 obtain⟨hS,pM,_,TB⟩:=HI.step (y:=0) zW yS EI hx (.inr ⟨by rw[tq.E];exact hib,rfl⟩);rw[mZ] at hS TB;have HS:=G hS;have q0:IY ((x:Int)+(cy:Int)) 1000000000=(((x+cy)%1000000000:Nat):Int):=rfl;have q1:rR ((x:Int)+(cy:Int)) 1000000000=(((x+cy)/1000000000:Nat):Int):=rfl;have q2:(x+cy)%1000000000<1000000000:=EF _ I;clear dU hx TH hS hcx aaE;generalize(x+cy)%1000000000=r2 at*;generalize(x+cy)/1000000000=cq at*;go_wp2_with fail;have hz:=uk.bL i (C .u32 (r2:Int));rw[QA] at hz;exact⟨⟨i+1,cq,cK.set i r2,rfl,bR,I,HS,hz,bA.setCell (p:=⟨w,i,J⟩) (aC _) _⟩,bW⟩
theorem awG(x y:Int)(l:List Nat)(h:val l=x.natAbs*y.natAbs):vQ (decide (x<0)!=decide (y<0)) l=x*y:=by
 unfold vQ;rw[h];rcases Gy x 0 with hx|hx<;>rcases Gy y 0 with hy|hy
 ·obtain⟨a,rfl⟩:∃a:Nat,x= -(a:Int):=⟨x.natAbs,I⟩;obtain⟨b,rfl⟩:∃b:Nat,y= -(b:Int):=⟨y.natAbs,I⟩;rw[decide_eq_true hx,decide_eq_true hy];simp[Int.neg_mul_neg]
 ·obtain⟨a,rfl⟩:∃a:Nat,x= -(a:Int):=⟨x.natAbs,I⟩;obtain⟨b,rfl⟩:∃b:Nat,y=(b:Int):=⟨y.natAbs,I⟩;rw[decide_eq_true hx,decide_eq_false I];simp[Int.neg_mul]
 ·obtain⟨a,rfl⟩:∃a:Nat,x=(a:Int):=⟨x.natAbs,I⟩;obtain⟨b,rfl⟩:∃b:Nat,y= -(b:Int):=⟨y.natAbs,I⟩;rw[decide_eq_false I,decide_eq_true hy];simp[Int.mul_neg]
 exact akx
theorem awH(x y:Int)(l:List Nat)(hs:decide (x<0)=decide (y<0))(h:val l=x.natAbs+y.natAbs):vQ (decide (x<0)) l=x+y:=by
 unfold vQ;rw[h];rcases Gy x 0 with hx|hx<;>rcases Gy y 0 with hy|hy
 ·rw[decide_eq_true hx];simp only[if_true];omega
 ·rw[decide_eq_true hx,decide_eq_false I] at hs;cases hs
 ·rw[decide_eq_false I,decide_eq_true hy] at hs;cases hs
 rw[decide_eq_false I];simp only[lK,if_false];omega
theorem aaF{l:List Nat}(h:Can l)(k:Nat)(hv:val l<BB ^ k):l.length<=k:=by
 rcases sU (l= []) with e|e;·rw[e];simp
 have h1:=adH h e;rcases jl k l.length with g|g;·have:BB ^ k<=BB ^ (l.length-1):=Nat.pow_le_pow_right Dq I;omega
 exact g
theorem awI{cs:Array ak}(h:ai w q 46 cs)(hs:cs.size=2)(h0:tmps.getD 4 undef=aQ q):(results f261 tmps).run aa w= .ok (aD cs) w:=results_cell_row results261 tmps w q 46 cs (0,0) _ h0 h underlying46 rfl Fa
theorem aaG(neg dV Dt Du:ak)(x y:Int)(B:Nat)(w:Y)(hx:bT w B neg dV x)(hy:bT w B Dt Du y)(hB:B<=w.heap.size)(o9:x.natAbs<BB ^ 100)(Co:y.natAbs<BB ^ 100):
  aF aa 261 #[aD #[neg,dV],aD #[Dt,Du]] w (Dr (x*y) w):=by
 obtain⟨rfl,la,yR,uj,xU⟩:=hx;obtain⟨rfl,lb,pK,qZ,Dv⟩:=hy;have uM:=aaF uj 100 (by rw[xU];exact o9);have hlb:=aaF qZ 100 (by rw[Dv];exact Co);have QC:=yR;have Ov:=pK;obtain⟨Ay,ny,cy,rfl,_⟩:=Ov;obtain⟨Ax,nx,cx,rfl,_⟩:=QC;have yS:=G yR;have EI:=G pK;have EG:=G uj;have Xe:=G qZ;have FQ:=G xU;have HVB:=G Dv;have HZ:=G (awG x y);clear o9 Co;generalize vo:decide (x<0)=gU at*;generalize hny:decide (y<0)=nV at*;obtain⟨w3,dF⟩:∃w3:Y,w3=((w.alloc (ag #[gU,O Ax nx cx] 46)).alloc (ag #[nV,O Ay ny cy] 46)).alloc (ag #[X,O J 0 0] 46):=⟨_,rfl⟩;have bC:af (aj w w w3):=by exact TG
 have fM:w3.heap.size=w.heap.size+3:=KG;have K0:af (ai w3 w 46 #[gU,O Ax nx cx]):=by show ai _ _ _ _;rw[dF];exact((ai.new w _ _).alloc _).alloc _
 have K1:af (ai w3 (w.heap.size+1) 46 #[nV,O Ay ny cy]):=by exact akz
 have K2:af (ai w3 (w.heap.size+2) 46 #[X,O J 0 0]):=by exact aky
 clear yR pK uj qZ xU Dv vo;go_enter func261,ntmps261;go_upto_region 1 with fail;rw[<-dF];clear dF;have x0:w3.cell? ⟨w,0,J⟩=N (ax gU):=K0.cell 0;have x1:w3.cell? ⟨w.heap.size+1,0,J⟩=N (ax nV):=K1.cell 0;have x2:w3.cell? ⟨w,1,J⟩=N (O Ax nx cx):=K0.cell 1;have x3:w3.cell? ⟨w.heap.size+1,1,J⟩=N (O Ay ny cy):=K1.cell 1;refine iA (S:=λW=>W.cell? ⟨w,0,J⟩=N (ax gU)/\W.cell? ⟨w.heap.size+1,0,J⟩=N (ax nV)/\W.cell? ⟨w,1,J⟩=N (O Ax nx cx)/\W.cell? ⟨w.heap.size+1,1,J⟩=N (O Ay ny cy)) dh ⟨x0,x1,x2,x3⟩ (λbg=>?_);refine aA 0 ?_;refine aA 1 ?_;refine aA 2 ?_;refine aA 3 ?_;refine aA 4 ?_;refine aA 5 ?_;refine aA 6 ?_;refine aA 7 ?_;refine aA 8 ?_;refine bK 9 (λK hK=>?_);go_simp;refine(awC _ _ la lb B w3.drew (yS.below (bC.mono hB)).drew (EI.below (bC.mono hB)).drew (ja hB bC.size) EG.1 Xe.1 I).mono ?_;rintro e' w4 ⟨out,ov,rfl,m1,m2,m3,bu⟩;rw[FQ.E,HVB.E] at m3;have HZ4:=G (HZ out m3);have zD:=G m1;have wR:=G m2;clear m1 m2 m3;have Bo:aj w3 w3 w4:=TC bu;refine bF hK abh (λbg=>?_);clear hK K;refine bK 10 (λK hK=>?_);go_simp;refine(Tz (gU !=nV) ov out w4 w4 zD (aC _) wR).mono ?_;rintro e' w5 ⟨⟨nv,mv,rfl,vS⟩,cO⟩;rw[HZ4.E] at vS;have Bd:=G vS;obtain⟨rfl,l5,⟨A5,n5,c5,rfl,_⟩,_⟩:=vS;generalize decide (x*y<0)=sz at*;(try dsimp only[uU]);have oH:aj w3 w3 w5:=aU Bo cO;have Eg:=cO.size;have Cq:=K2.below oH I;have z0:w5.cell? ⟨w.heap.size+2,0,J⟩=N (ax X):=Cq.cell 0;have z1:w5.cell? ⟨w.heap.size+2,1,J⟩=N (O J 0 0):=Cq.cell 1;have zf:=Cq.frozen;have X0:w5.cell? ⟨w,0,J⟩=N (ax gU):=(oH.cell dY).trans x0;have X1:w5.cell? ⟨w.heap.size+1,0,J⟩=N (ax nV):=(oH.cell dY).trans x1;have X2:w5.cell? ⟨w,1,J⟩=N (O Ax nx cx):=(oH.cell dY).trans x2;have X3:w5.cell? ⟨w.heap.size+1,1,J⟩=N (O Ay ny cy):=(oH.cell dY).trans x3;refine bF hK abO (λbg=>?_);clear hK K;refine bK 11 (λK hK=>?_);go_simp;refine bF hK ae3 (λbg=>?_);clear hK K;refine gI ?_;repeat clear bg
 go_wp2_with fail;have e0:(w5.setCell ⟨w.heap.size+2,0,J⟩ (ax sz)).cell? ⟨w.heap.size+2,1,J⟩=N (O J 0 0):=Y6;have Ma:=(Bd.store z0 (λ_ h=>nomatch h) (ax sz)).store e0 (λ_ h=>nomatch h) (O A5 n5 c5);have iL:=set2 (a':=ax sz) (b':=O A5 n5 c5) Cq;have eH:=Cm (a:=ax sz) (b:=O A5 n5 c5) (g:=w.heap.size+2) (bC.trans (oH.mono I)) I;exact eX (awI iL rfl rfl) rfl ⟨⟨_,_,rfl,Ma.more (by simp only[wh];omega)⟩,eH⟩
theorem awJ{cs:Array ak}(h:ai w q 46 cs)(hs:cs.size=2)(h0:tmps.getD 4 undef=aQ q):(results f260 tmps).run aa w= .ok (aD cs) w:=results_cell_row results260 tmps w q 46 cs (0,0) _ h0 h underlying46 rfl Fa
theorem awK(neg dV Dt Du:ak)(x y:Int)(B:Nat)(w:Y)(hx:bT w B neg dV x)(hy:bT w B Dt Du y)(hB:B<=w.heap.size)(o9:x.natAbs<BB ^ 100)(Co:y.natAbs<BB ^ 100)(EH:decide (x<0)=decide (y<0)):
  aF aa 260 #[aD #[neg,dV],aD #[Dt,Du]] w (Dr (x+y) w):=by
 obtain⟨rfl,la,yR,uj,xU⟩:=hx;obtain⟨rfl,lb,pK,qZ,Dv⟩:=hy;have uM:=aaF uj 100 (by rw[xU];exact o9);have hlb:=aaF qZ 100 (by rw[Dv];exact Co);have QC:=yR;have Ov:=pK;obtain⟨Ay,ny,cy,rfl,_⟩:=Ov;obtain⟨Ax,nx,cx,rfl,_⟩:=QC;have yS:=G yR;have EI:=G pK;have EG:=G uj;have Xe:=G qZ;have FQ:=G xU;have HVB:=G Dv;have HZ:=G (λl h=>awH x y l EH h);clear o9 Co;generalize vo:decide (x<0)=gU at*;generalize hny:decide (y<0)=nV at*;obtain rfl:gU=nV:=EH;obtain⟨w3,dF⟩:∃w3:Y,w3=((w.alloc (ag #[gU,O Ax nx cx] 46)).alloc (ag #[gU,O Ay ny cy] 46)).alloc (ag #[X,O J 0 0] 46):=⟨_,rfl⟩;have bC:af (aj w w w3):=by exact TG
 have fM:w3.heap.size=w.heap.size+3:=KG;have K0:af (ai w3 w 46 #[gU,O Ax nx cx]):=by show ai _ _ _ _;rw[dF];exact((ai.new w _ _).alloc _).alloc _
 have K1:af (ai w3 (w.heap.size+1) 46 #[gU,O Ay ny cy]):=by show ai _ _ _ _;rw[dF];have:=(ai.new (w.alloc (ag #[gU,O Ax nx cx] 46)) 46 #[gU,O Ay ny cy]);rw[aW] at this;exact this.alloc _
 have K2:af (ai w3 (w.heap.size+2) 46 #[X,O J 0 0]):=by show ai _ _ _ _;rw[dF];have:=(ai.new ((w.alloc (ag #[gU,O Ax nx cx] 46)).alloc (ag #[gU,O Ay ny cy] 46)) 46 #[X,O J 0 0]);rw[aW,aW] at this;exact this
 clear yR pK uj qZ xU Dv vo;go_enter func260,ntmps260;go_upto_region 1 with fail;rw[<-dF];clear dF;have x0:w3.cell? ⟨w,0,J⟩=N (ax gU):=K0.cell 0;have x1:w3.cell? ⟨w.heap.size+1,0,J⟩=N (ax gU):=K1.cell 0;have x2:w3.cell? ⟨w,1,J⟩=N (O Ax nx cx):=K0.cell 1;have x3:w3.cell? ⟨w.heap.size+1,1,J⟩=N (O Ay ny cy):=K1.cell 1;go_upto_region 2 with fail;refine iA (S:=λW=>W.cell? ⟨w,0,J⟩=N (ax gU)/\W.cell? ⟨w.heap.size+1,0,J⟩=N (ax gU)/\W.cell? ⟨w,1,J⟩=N (O Ax nx cx)/\W.cell? ⟨w.heap.size+1,1,J⟩=N (O Ay ny cy)) dh ⟨x0,x1,x2,x3⟩ (λbg=>?_);refine aA 0 ?_;refine aA 1 ?_;refine aA 2 ?_;refine aA 3 ?_;refine aA 4 ?_;refine aA 5 ?_;refine bK 6 (λK hK=>?_);go_simp;refine(awE _ _ la lb B w3.drew (yS.below (bC.mono hB)).drew (EI.below (bC.mono hB)).drew (ja hB bC.size) EG.1 Xe.1 I I).mono ?_;rintro e' w4 ⟨out,ov,rfl,m1,m2,m3,bu⟩;rw[FQ.E,HVB.E] at m3;have HZ4:=G (HZ out m3);have zD:=G m1;have wR:=G m2;clear m1 m2 m3;have Bo:aj w3 w3 w4:=TC bu;refine bF hK abh (λbg=>?_);clear hK K;refine bK 7 (λK hK=>?_);go_simp;refine(Tz gU ov out w4 w4 zD (aC _) wR).mono ?_;rintro e' w5 ⟨⟨nv,mv,rfl,vS⟩,cO⟩;rw[HZ4.E] at vS;have Bd:=G vS;obtain⟨rfl,l5,⟨A5,n5,c5,rfl,_⟩,_⟩:=vS;generalize decide (x+y<0)=sz at*;(try dsimp only[uU]);have oH:aj w3 w3 w5:=aU Bo cO;have Eg:=cO.size;have Cq:=K2.below oH I;have z0:w5.cell? ⟨w.heap.size+2,0,J⟩=N (ax X):=Cq.cell 0;have z1:w5.cell? ⟨w.heap.size+2,1,J⟩=N (O J 0 0):=Cq.cell 1;have zf:=Cq.frozen;have X0:w5.cell? ⟨w,0,J⟩=N (ax gU):=(oH.cell dY).trans x0;have X1:w5.cell? ⟨w.heap.size+1,0,J⟩=N (ax gU):=(oH.cell dY).trans x1;have X2:w5.cell? ⟨w,1,J⟩=N (O Ax nx cx):=(oH.cell dY).trans x2;have X3:w5.cell? ⟨w.heap.size+1,1,J⟩=N (O Ay ny cy):=(oH.cell dY).trans x3;refine bF hK abO (λbg=>?_);clear hK K;refine bK 8 (λK hK=>?_);go_simp;refine bF hK ae3 (λbg=>?_);clear hK K;refine gI ?_;repeat clear bg
 go_wp2_with fail;have e0:(w5.setCell ⟨w.heap.size+2,0,J⟩ (ax sz)).cell? ⟨w.heap.size+2,1,J⟩=N (O J 0 0):=Y6;have Ma:=(Bd.store z0 (λ_ h=>nomatch h) (ax sz)).store e0 (λ_ h=>nomatch h) (O A5 n5 c5);have iL:=set2 (a':=ax sz) (b':=O A5 n5 c5) Cq;have eH:=Cm (a:=ax sz) (b:=O A5 n5 c5) (g:=w.heap.size+2) (bC.trans (oH.mono I)) I;exact eX (awJ iL rfl rfl) rfl ⟨⟨_,_,rfl,Ma.more (by simp only[wh];omega)⟩,eH⟩
def Me(x y:Int):Int:=if x<y then -1 else if y<x then 1 else 0
theorem akM{x:Int}(h:x<y):Me x y= -1:=if_pos h
theorem akN{x:Int}(h:y<x):Me x y=1:=by unfold Me;rw[if_neg I,if_pos h]
theorem awL{x:Int}(h:iZ x≠iZ y):(iZ x<iZ y/\x<y)\/(iZ y<iZ x/\y<x):=by
 unfold iZ at*;rcases Int.lt_trichotomy x 0 with hx|hx|hx<;>rcases Int.lt_trichotomy y 0 with hy|hy|hy
 all_goals(first|rw[if_neg I,if_pos hx] at* |rw[if_pos hx] at* |rw[if_neg I,if_neg I] at *)
 all_goals(first|rw[if_neg I,if_pos hy] at* |rw[if_pos hy] at* |rw[if_neg I,if_neg I] at *)
 all_goals omega
theorem awM{x:Int}(h:iZ x=iZ y):(x<0/\y<0)\/(0<=x/\0<=y):=by
 rcases Gy x 0 with hx|hx<;>rcases Gy y 0 with hy|hy
 ·exact .inl ⟨hx,hy⟩
 ·exfalso;unfold iZ at h;rw[if_neg I,if_pos hx] at h;split at h;·omega
  rw[if_neg I] at h;omega
 ·exfalso;unfold iZ at h;rw[if_neg (by omega:¬y=0),if_pos hy] at h;split at h;·omega
  rw[if_neg I] at h;omega
 exact .inr ⟨hx,hy⟩
theorem akO(h:R:=by
  unfold Cn Me;by_cases h:x<y;·rw[if_pos h,if_pos I]
  ·rw[if_neg h,if_neg I];by_cases h2:y<x;·rw[if_pos h2,if_pos I]
   ·rw[if_neg h2,if_neg I]):R:=h
theorem awN{x:Int}(hx:0<=x)(hy:0<=y):Cn x.natAbs y.natAbs=Me x y:=by exact akO
theorem awO{x:Int}(hx:x<0)(hy:y<0):Cn y.natAbs x.natAbs=Me x y:=by exact akO
theorem akP(h:R:=by generalize iZ x=sx at*;generalize iZ y=sy at*;go_wp2_with fail;go_ret;exact⟨ic,fT⟩):R:=h
theorem akQ(h:R:=by rintro e' w6 ⟨rfl,dJ⟩;go_wp2_with fail;go_ret;exact⟨by rw[<-F.E];rfl,aU fT dJ⟩):R:=h
theorem akR(h:R:=by exact((aN _ _).alloc (aC _) _).alloc bB _):R:=h
theorem akS(neg dV Dt Du:ak)(x y:Int)(B:Nat)(w:Y)(hx:bT w B neg dV x)(hy:bT w B Dt Du y)(hB:B<=w.heap.size):
  aF aa 258 #[aD #[neg,dV],aD #[Dt,Du]] w λe w'=>e=aI (C D (Me x y))/\aj w w w':=by
 have HX:=G hx;have HY:=G hy;obtain⟨rfl,la,yR,uj,xU⟩:=hx;obtain⟨rfl,lb,pK,qZ,Dv⟩:=hy;have QC:=yR;have Ov:=pK;obtain⟨Ay,ny,cy,rfl,_⟩:=Ov;obtain⟨Ax,nx,cx,rfl,_⟩:=QC;have vP:=G (λW (h:aj B w W)=>adK _ _ la lb B W (yR.below h) (pK.below h) uj qZ);have zO:=G (λW (h:aj B w W)=>adK _ _ lb la B W (pK.below h) (yR.below h) qZ uj);rw[xU,Dv] at vP zO;have HSX:af (∀W,aj B w W->aF aa 69 #[aD #[ax (decide (x<0)),O Ax nx cx]] W λe w'=>e=aI (C D (iZ x))/\aj W W w'):=λW h=>Xa _ _ x B W (HX.below h);have HSY:af (∀W,aj B w W->aF aa 69 #[aD #[ax (decide (y<0)),O Ay ny cy]] W λe w'=>e=aI (C D (iZ y))/\aj W W w'):=λW h=>Xa _ _ y B W (HY.below h);have KY:af (decide (x<0)=Z↔x<0):=decide_eq_true_iff;generalize decide (x<0)=gU at*;generalize decide (y<0)=nV at*;obtain⟨w3,dF⟩:∃w3:Y,w3=(w.alloc (ag #[gU,O Ax nx cx] 46)).alloc (ag #[nV,O Ay ny cy] 46):=⟨_,rfl⟩;have bC:af (aj w w w3):=by show aj _ _ _;rw[dF];exact akR
 have fM:w3.heap.size=w.heap.size+2:=KG;have K0:af (ai w3 w 46 #[gU,O Ax nx cx]):=by show ai _ _ _ _;rw[dF];exact(ai.new w _ _).alloc _
 have K1:af (ai w3 (w.heap.size+1) 46 #[nV,O Ay ny cy]):=by show ai _ _ _ _;rw[dF];have:=(ai.new (w.alloc (ag #[gU,O Ax nx cx] 46)) 46 #[nV,O Ay ny cy]);rw[aW] at this;exact this
 clear yR pK uj qZ xU Dv HX HY;go_enter func258,ntmps258;go_upto_region 1 with fail;rw[<-dF];clear dF;have x0:w3.cell? ⟨w,0,J⟩=N (ax gU):=K0.cell 0;have x1:w3.cell? ⟨w.heap.size+1,0,J⟩=N (ax nV):=K1.cell 0;have x2:w3.cell? ⟨w,1,J⟩=N (O Ax nx cx):=K0.cell 1;have x3:w3.cell? ⟨w.heap.size+1,1,J⟩=N (O Ay ny cy):=K1.cell 1;refine iA (S:=λW=>W.cell? ⟨w,0,J⟩=N (ax gU)/\W.cell? ⟨w.heap.size+1,0,J⟩=N (ax nV)/\W.cell? ⟨w,1,J⟩=N (O Ax nx cx)/\W.cell? ⟨w.heap.size+1,1,J⟩=N (O Ay ny cy)) dh ⟨x0,x1,x2,x3⟩ (λbg=>?_);refine aA 0 ?_;refine aA 2 ?_;refine bK 1 (λK hK=>?_);go_simp;refine(HSX w3.drew (below_drewN (bC.mono hB) 1)).mono ?_;rintro e' w4 ⟨rfl,bu⟩;dsimp only
 have Bo:aj w3 w3 w4:=TC bu;refine bF hK abh (λbg=>?_);clear hK K;refine bK 3 (λK hK=>?_);go_simp;refine(HSY w4 ((bC.mono hB).trans (Bo.mono I))).mono ?_;rintro e' w5 ⟨rfl,cO⟩;dsimp only
 have oH:aj w3 w3 w5:=aU Bo cO;have X0:w5.cell? ⟨w,0,J⟩=N (ax gU):=(oH.cell dY).trans x0;have X1:w5.cell? ⟨w.heap.size+1,0,J⟩=N (ax nV):=(oH.cell dY).trans x1;have X2:w5.cell? ⟨w,1,J⟩=N (O Ax nx cx):=(oH.cell dY).trans x2;have X3:w5.cell? ⟨w.heap.size+1,1,J⟩=N (O Ay ny cy):=(oH.cell dY).trans x3;refine bF hK abO (λbg=>?_);clear hK K;refine aA 4 ?_;refine aA 5 ?_;refine gI ?_;repeat clear bg
 have fT:=G (bC.trans (oH.mono I));clear bu Bo cO oH x0 x1 x2 x3 HSX HSY K0 K1;rcases sU (iZ x=iZ y) with EH|EH;case inr=>
  have k0:(iZ x !=iZ y)=Z:=by simpa using EH
  rcases awL EH with⟨h1,h2⟩|⟨h1,h2⟩
  ·have k1:decide (iZ x<iZ y)=Z:=by rw[decide_eq_true_eq];exact h1
   have F:=G (akM h2);exact akP
  have k1:decide (iZ x<iZ y)=X:=by rw[decide_eq_false_iff_not];omega
  have F:=G (akN h2);exact akP
 have k0:(iZ x !=iZ y)=X:=by simpa using EH
 have zN:=G (awM EH);generalize iZ x=sx at*;generalize iZ y=sy at*;cases gU
 ·have wW:¬x<0:=λh=>absurd (KY.2 h) aG;have F:af (Cn x.natAbs y.natAbs=Me x y):=by
   rcases zN with⟨h,_⟩|⟨h1,h2⟩;·exact absurd h wW
   exact awN h1 h2
  go_wp2_with fail;refine(vP w5 (fT.mono hB)).mono ?_;exact akQ
 have wW:x<0:=KY.1 rfl;have F:af (Cn y.natAbs x.natAbs=Me x y):=by
  rcases zN with⟨h1,h2⟩|⟨h,_⟩;·exact awO h1 h2
  exact absurd wW I
 go_wp2_with fail;refine(zO w5 (fT.mono hB)).mono ?_;exact akQ
theorem awP(l:List Nat)(j x:Nat)(h:l[j]?=N x):val (l.drop j)=val (l.drop (j+1))*1000000000+x:=by rw[W9 l j x h,L8 BB];show x+val (l.drop (j+1))*1000000000=_;omega
theorem awQ(l:List Nat)(j:Nat):val (l.drop j)<=val l:=by
 rcases jl l.length j with h|h;·rw[Qy I];exact FI _
 have e:=aaz l j h;have:1*val (l.drop j)<=BB ^ j*val (l.drop j):=Nat.mul_le_mul_right _ (Nat.pow_pos Dq);omega
theorem akT(h:R:=by go_wp2_with fail;go_ret2;refine⟨?_,jk⟩;refine congrArg (λt:Int=>aI (bz #[t,Z])) ?_;(try unfold RowKit.wrap64);(try simp only[IntKind.wrap_u64]);omega):R:=h
theorem awR(neg dV:ak)(x:Int)(B:Nat)(w:Y)(hx:bT w B neg dV x)(hB:B<=w.heap.size)(h1: -9223372036854775808<x)(h2:x<9223372036854775807):
  aF aa 217 #[aD #[neg,dV]] w λe w'=>e=aI (bz #[x,Z])/\aj w w w':=by
 have HX:=G hx;obtain⟨rfl,la,yR,uj,xU⟩:=hx;obtain⟨Ax,nx,cx,rfl,hl,_,hc,hr⟩:=yR;have HR:=G hr;have HL:=G hl;have HV:=G xU;have QB:=G uj.1;have Dv:val la<=9223372036854775807:=I;have KY:af (decide (x<0)=Z↔x<0):=decide_eq_true_iff;have ni:=G (λW=>Xb (-9223372036854775808) I I W);have iW:=G (λW=>Xb 9223372036854775807 I I W);have e1:=akN (x:=x) (y:= -9223372036854775808) h1;have e2:=akM (x:=x) (y:=9223372036854775807) h2;have vP:=G (λW n m (h:bT W W n m (-9223372036854775808)) (hb:aj B w W) (hs:B<=W.heap.size)=>akS _ _ n m x _ W W ((HX.below hb).more hs) h (aC _));have zO:=G (λW n m (h:bT W W n m 9223372036854775807) (hb:aj B w W) (hs:B<=W.heap.size)=>akS _ _ n m x _ W W ((HX.below hb).more hs) h (aC _));rw[e1] at vP;rw[e2] at zO;generalize decide (x<0)=gU at*;obtain⟨w3,dF⟩:∃w3:Y,w3=w.alloc (ag #[gU,O Ax nx cx] 46):=⟨_,rfl⟩;have bC:af (aj w w w3):=by show aj _ _ _;rw[dF];exact(aN _ _).alloc (aC _) _
 have fM:w3.heap.size=w.heap.size+1:=KG;have K0:af (ai w3 w 46 #[gU,O Ax nx cx]):=by show ai _ _ _ _;rw[dF];exact ai.new w _ _
 clear xU uj hr hl e1 e2 HX;go_enter func217,ntmps217;go_upto_region 1 with fail;rw[<-dF];clear dF;have x0:w3.cell? ⟨w,0,J⟩=N (ax gU):=K0.cell 0;have x1:w3.cell? ⟨w,1,J⟩=N (O Ax nx cx):=K0.cell 1;refine iA (S:=λW=>W.cell? ⟨w,0,J⟩=N (ax gU)/\W.cell? ⟨w,1,J⟩=N (O Ax nx cx)) dh ⟨x0,x1⟩ (λbg=>?_);refine aA 0 ?_;refine bK 1 (λK hK=>?_);go_simp;refine(ni w3.drew).mono ?_;rintro e' w4 ⟨⟨nv1,mv1,rfl,hi1⟩,aB⟩;have HI1:=G hi1;obtain⟨rfl,l1,⟨A1,n1,c1,rfl,_⟩,_⟩:=hi1;(try dsimp only[uU]);have Ag:aj w3 w3 w4:=TC aB;have ed:=Ag.size;refine bF hK (by exact⟨(Ag.cell dY).trans x0,(Ag.cell dY).trans x1⟩) (λbg=>?_);clear hK K;refine bK 2 (λK hK=>?_);go_simp;refine(vP w4 _ _ HI1 ((bC.mono hB).trans (Ag.mono I)) I).mono ?_;rintro e' w5 ⟨rfl,aJ⟩;dsimp only
 have vv:aj w3 w3 w5:=aU Ag aJ;refine bF hK (by exact⟨(vv.cell dY).trans x0,(vv.cell dY).trans x1⟩) (λbg=>?_);clear hK K;refine aA 3 ?_;refine aA 4 ?_;refine aA 5 ?_;refine bK 6 (λK hK=>?_);go_simp;refine(iW w5).mono ?_;rintro e' w6 ⟨⟨nv6,mv6,rfl,Xh⟩,dJ⟩;have Xi:=G Xh;obtain⟨rfl,l6,⟨A6,n6,c6,rfl,_⟩,_⟩:=Xh;(try dsimp only[uU]);have TI:aj w3 w3 w6:=aU vv dJ;have Eg:=TI.size;refine bF hK (by exact⟨(TI.cell dY).trans x0,(TI.cell dY).trans x1⟩) (λbg=>?_);clear hK K;refine bK 7 (λK hK=>?_);go_simp;refine(zO w6 _ _ Xi ((bC.mono hB).trans (TI.mono I)) I).mono ?_;rintro e' w7 ⟨rfl,fF⟩;dsimp only
 have uV:aj w3 w3 w7:=aU TI fF;have Dl:=uV.size;have X0:w7.cell? ⟨w,0,J⟩=N (ax gU):=(uV.cell dY).trans x0;have X1:w7.cell? ⟨w,1,J⟩=N (O Ax nx cx):=(uV.cell dY).trans x1;refine bF hK (by exact⟨X0,X1⟩) (λbg=>?_);clear hK K;refine aA 8 ?_;refine aA 9 ?_;refine gI ?_;repeat clear bg
 have jk:=G (bC.trans (uV.mono I));have hsw:=jk.size;clear aB aJ dJ fF Ag vv TI uV x0 x1 vP zO ni iW HI1 Xi K0;go_wp2_with fail;go_loopw [4,5] (λuv iv wr=>∃(k u:Nat) (xi:Int),iv=C D xi/\xi+1=(k:Int)/\uv=C .u64 (u:Int)/\k<=nx/\u=val (la.drop k)/\wr=w7) (λ_ iv _=>(intOf iv+1).toNat);case atStart=>exact⟨nx,0,(nx:Int)-1,rfl,I,rfl,aC _,by rw[Qy (by rw[HL.E];exact aC _)];rfl,rfl⟩
 obtain⟨k,u,xi,rfl,hxi,rfl,hk,hu,hw⟩:=hrel;subst hw;rcases sw k with rfl|h0
 ·obtain rfl:xi= -1:=by omega
  have hu2:u=x.natAbs:=by rw[hu,Vn,HV.E]
  clear hu;cases gU;·have wW:¬x<0:=λh=>absurd (KY.2 h) aG;have hxu:(u:Int)=x:=I;exact akT
  have wW:x<0:=KY.1 rfl;have hxu:(u:Int)= -x:=I;exact akT
 obtain⟨j,rfl⟩:∃j,k=j+1:=⟨k-1,I⟩;obtain rfl:xi=(j:Int):=I;obtain⟨ad,y,rfl,_,hy,hcy⟩:=(HR.below (jk.mono hB)).Gx (k:=j) I;have hvd:=awP la j y hy;have fO:=awQ la j;rw[hvd,<-hu] at fO;have F:af (u*1000000000+y=val (la.drop j)):=by show _=_;rw[hvd,hu]
 have hyb:y<1000000000:=QB.get hy;clear hvd hu hy;go_wp2_with fail;exact⟨⟨j,u*1000000000+y,(j:Int)-1,rfl,I,aG,I,F,trivial⟩,Fb⟩
def Xj(a b:Int)(w:Y)(e:Ending)(w':Y):Prop:=
 ∃nn nm dn dm,e=aI (aD #[nn,nm,dn,dm])/\bT w' w' nn nm a/\bT w' w' dn dm b/\aj w w w'
theorem awT{cs:Array ak}(h:ai w q 48 cs)(hs:cs.size=4)(h0:tmps.getD 2 undef=aQ q):(results f70 tmps).run aa w= .ok (aD cs) w:=results_cell_row results70 tmps w q 48 cs (0,0) _ h0 h underlying48 rfl Fa
theorem bT.forms{neg:ak}(h:bT w B neg dV z):neg=ax (decide (z<0))/\∃A n c,dV=O A n c:=by obtain⟨e,l,⟨A,n,c,e2,_⟩,_⟩:=h;exact⟨e,A,n,c,e2⟩
theorem bT.alloc{neg:ak}(h:bT w B neg dV z)(hB:B<=w.heap.size)(o:Obj):bT (w.alloc o) B neg dV z:=h.keep λp hp=>Rn w o p I
theorem aaH{a b c c' d':ak}(h:ai w g T #[a,b,c,d]):ai ((((w.setCell ⟨g,0,J⟩ a').setCell ⟨g,1,J⟩ b').setCell ⟨g,2,J⟩ c').setCell ⟨g,3,J⟩ d') g T #[a',b',c',d']:=by have:=(((h.bL 0 a').bL 1 b').bL 2 c').bL 3 d';simpa using this
theorem aaI{a b c:ak}(h:aj B w0 w)(hB:B<=g):aj B w0 ((((w.setCell ⟨g,0,J⟩ a).setCell ⟨g,1,J⟩ b).setCell ⟨g,2,J⟩ c).setCell ⟨g,3,J⟩ d):=(((h.setCell (p:=⟨g,0,J⟩) hB a).setCell (p:=⟨g,1,J⟩) hB b).setCell (p:=⟨g,2,J⟩) hB c).setCell (p:=⟨g,3,J⟩) hB d
theorem bT.Ox{neg:ak}{b0 b1:Bool}{A1 A2:Option aK}{n2 c1 c2:Nat}(h:bT w B neg dV z)(hk:ai w g T #[b0,O A1 n1 c1,b1,O A2 n2 c2])(a b c d:ak):
  bT ((((w.setCell ⟨g,0,J⟩ a).setCell ⟨g,1,J⟩ b).setCell ⟨g,2,J⟩ c).setCell ⟨g,3,J⟩ d) B neg dV z:=by have h0:w.cell? ⟨g,0,J⟩=N (ax b0):=hk.cell 0;have k1:=hk.bL 0 a;have h1:(w.setCell ⟨g,0,J⟩ a).cell? ⟨g,1,J⟩=N (O A1 n1 c1):=k1.cell 1;have k2:=k1.bL 1 b;have h2:((w.setCell ⟨g,0,J⟩ a).setCell ⟨g,1,J⟩ b).cell? ⟨g,2,J⟩=N (ax b1):=k2.cell 2;have k3:=k2.bL 2 c;have h3:(((w.setCell ⟨g,0,J⟩ a).setCell ⟨g,1,J⟩ b).setCell ⟨g,2,J⟩ c).cell? ⟨g,3,J⟩=N (O A2 n2 c2):=k3.cell 3;exact(((h.store h0 (λ_ h=>nomatch h) a).store h1 (λ_ h=>nomatch h) b).store h2 (λ_ h=>nomatch h) c).store h3 (λ_ h=>nomatch h) d
theorem adQ(h:R:=by
  intro W h;have h1:iZ b=1:=by unfold iZ;rw[if_neg I,if_neg I]
  have:=Xa _ _ b B W (yT.below h);rw[h1] at this;exact this):R:=h
theorem akU(h:R:=by show aj _ _ _;rw[gM];exact akR):R:=h
theorem akV(nn nm dn dm:ak)(a b:Int)(B:Nat)(w:Y)(ha:bT w B nn nm a)(hb:bT w B dn dm b)(hB:B<=w.heap.size)(aT:0<b)(aB:b<1000000000):
  aF aa 70 #[aD #[nn,nm,dn,dm]] w (Xj (kJ a b).1 (kJ a b).2 w):=by
 obtain⟨g,hg⟩:∃g:Nat,g=Nat.gcd a.natAbs b.natAbs:=⟨_,rfl⟩;have hg0:0<g:=by rw[hg];exact Nat.gcd_pos_of_pos_right _ I
 have yU:g<1000000000:=by have:=Nat.gcd_le_right a.natAbs (show 0<b.natAbs by omega);omega
 have e1:(kJ a b).1=rR a (g:Int):=by rw[hg];rfl
 have e2:(kJ a b).2=rR b (g:Int):=by rw[hg];rfl
 rw[e1,e2];have HA:=G ha;have yT:=G hb;obtain⟨rfl,Aa,na,ca,rfl⟩:=ha.forms;obtain⟨rfl,Ab,nb,cb,rfl⟩:=hb.forms;have qK:af (∀W,aj B w W->B<=W.heap.size->aF aa 132 #[aD #[ax (decide (a<0)),O Aa na ca],aD #[ax (decide (b<0)),O Ab nb cb]] W (Dr (g:Int) W)):=by intro W h hs;rw[hg];exact awx _ _ _ _ a b B W (HA.below h) (yT.below h) hs I
 have zN:af (∀W,aj B w W->aF aa 69 #[aD #[ax (decide (b<0)),O Ab nb cb]] W λe w'=>e=aI (C D 1)/\aj W W w'):=by exact adQ
 have TJ:af (∀W n m,aj B w W->bT W W n m (g:Int)->B<=W.heap.size->aF aa 134 #[aD #[ax (decide (a<0)),O Aa na ca],aD #[n,m]] W (aaC a g W)):=λW n m h h2 h3=>adN _ _ n m a g W W ((HA.below h).more h3) h2 (aC _) I I;have Sd:af (∀W n m,aj B w W->bT W W n m (g:Int)->B<=W.heap.size->aF aa 134 #[aD #[ax (decide (b<0)),O Ab nb cb],aD #[n,m]] W (aaC b g W)):=λW n m h h2 h3=>adN _ _ n m b g W W ((yT.below h).more h3) h2 (aC _) I I;generalize decide (a<0)=sa at*;generalize decide (b<0)=sb at*;clear ha hb e1 e2 hg aT aB HA yT;obtain⟨w2,gM⟩:∃w2:Y,w2=(w.alloc (ag #[sa,O Aa na ca,sb,O Ab nb cb] 48)).alloc (ag #[X,O J 0 0,X,O J 0 0] 48):=⟨_,rfl⟩;have aS:af (aj w w w2):=by exact akU
 have fw:w2.heap.size=w.heap.size+2:=Rp;have K0:af (ai w2 w 48 #[sa,O Aa na ca,sb,O Ab nb cb]):=by show ai _ _ _ _;rw[gM];exact(ai.new w _ _).alloc _
 have K1:af (ai w2 (w.heap.size+1) 48 #[X,O J 0 0,X,O J 0 0]):=by show ai _ _ _ _;rw[gM];have:=(ai.new (w.alloc (ag #[sa,O Aa na ca,sb,O Ab nb cb] 48)) 48 #[X,O J 0 0,X,O J 0 0]);rw[aW] at this;exact this
 go_enter func70,ntmps70;go_wp2_with fail;rw[<-gM];clear gM;refine(qK w2 (aS.mono hB) I).mono ?_;rintro e' w3 ⟨⟨nd,md,rfl,hi3⟩,aR⟩;have Cs:=G hi3;obtain⟨rfl,A3,n3,c3,rfl⟩:=hi3.forms;generalize decide ((g:Int)<0)=sg at*;have fM:=aR.size;obtain⟨w4,uw⟩:∃w4:Y,w4=w3.alloc (ag #[sg,O A3 n3 c3] 46):=⟨_,rfl⟩;have rH:w4.heap.size=w3.heap.size+1:=YB;have I1:aj w2 w2 w4:=by rw[uw];exact aR.alloc fM _
 have L0:=G (K0.below I1 I);have L1:=G (K1.below I1 I);have L2:af (ai w4 w3 46 #[sg,O A3 n3 c3]):=by show ai _ _ _ _;rw[uw];exact ai.new w3 _ _
 have Dw:af (bT w4 w3 (ax sg) (O A3 n3 c3) (g:Int)):=by show bT _ _ _ _ _;rw[uw];exact Cs.alloc (aC _) _
 have dE:=G (aS.trans (I1.mono I));clear hi3 aR I1 K0 K1 qK;(try dsimp only[uU]);go_upto_region 2 with fail;rw[<-uw];clear uw;have x2:w4.cell? ⟨w,2,J⟩=N (ax sb):=L0.cell 2;have x3:w4.cell? ⟨w,3,J⟩=N (O Ab nb cb):=L0.cell 3;go_wp2_with fail;refine(zN w4 (dE.mono hB)).mono ?_;rintro e' w5 ⟨rfl,cO⟩;have BJ:=cO.size;have M0:=G (L0.below cO I);have M1:=G (L1.below cO I);have M2:=G (L2.below cO I);have Bd:af (bT w5 w5 (ax sg) (O A3 n3 c3) (g:Int)):=(Dw.below (cO.mono I)).more I;have fT:=G (aU dE cO);clear cO L0 L1 L2 x2 x3 Dw zN Cs;have x0:w5.cell? ⟨w,0,J⟩=N (ax sa):=M0.cell 0;have x1:w5.cell? ⟨w,1,J⟩=N (O Aa na ca):=M0.cell 1;have y0:w5.cell? ⟨w3,0,J⟩=N (ax sg):=M2.cell 0;have y1:w5.cell? ⟨w3,1,J⟩=N (O A3 n3 c3):=M2.cell 1;go_wp2_with fail;refine(TJ w5 _ _ (fT.mono hB) Bd I).mono ?_;rintro e' w6 ⟨qn,qm,rn,rm,rfl,Lh,hr6,dJ⟩;have HQ6:=G Lh;obtain⟨rfl,A6,n6,c6,rfl⟩:=Lh.forms;obtain⟨rfl,A6',n6',c6',rfl⟩:=hr6.forms;have Eg:=dJ.size;generalize decide (rR a (g:Int)<0)=s6 at*;generalize decide (IY a (g:Int)<0)=s6' at*;obtain⟨w7,sj⟩:∃w7:Y,w7=(w6.alloc (ag #[s6,O A6 n6 c6] 46)).alloc (ag #[s6',O A6' n6' c6'] 46):=⟨_,rfl⟩;have Dl:w7.heap.size=w6.heap.size+2:=by rw[sj];simp only[aW]
 have TK:aj w6 w6 w7:=ae0;have GD:aj w5 w5 w7:=aU dJ TK;have N0:=G (M0.below GD I);have N1:=G (M1.below GD I);have N2:=G (M2.below GD I);have N3:af (ai w7 w6 46 #[s6,O A6 n6 c6]):=by show ai _ _ _ _;rw[sj];exact(ai.new w6 _ _).alloc _
 have NK:af (bT w7 w6 (ax s6) (O A6 n6 c6) (rR a (g:Int))):=HQ6.below TK;have TE:af (bT w7 w7 (ax sg) (O A3 n3 c3) (g:Int)):=(Bd.below GD).more I;have jk:=G (aU fT GD);clear Lh hr6 dJ TK GD x0 x1 y0 y1 M0 M1 M2 Bd TJ HQ6;go_upto_region 5 with fail;rw[<-sj];clear sj;have x2:w7.cell? ⟨w,2,J⟩=N (ax sb):=N0.cell 2;have x3:w7.cell? ⟨w,3,J⟩=N (O Ab nb cb):=N0.cell 3;have y0:w7.cell? ⟨w3,0,J⟩=N (ax sg):=N2.cell 0;have y1:w7.cell? ⟨w3,1,J⟩=N (O A3 n3 c3):=N2.cell 1;go_wp2_with fail;refine(Sd w7 _ _ (jk.mono hB) TE I).mono ?_;rintro e' w8 ⟨qn,qm,rn,rm,rfl,hq8,hr8,yQ⟩;have HQ8:=G hq8;obtain⟨rfl,A8,n8,c8,rfl⟩:=hq8.forms;obtain⟨rfl,A8',n8',c8',rfl⟩:=hr8.forms;have Qk:=yQ.size;generalize decide (rR b (g:Int)<0)=s8 at*;generalize decide (IY b (g:Int)<0)=s8' at*;obtain⟨w9,CE⟩:∃w9:Y,w9=(w8.alloc (ag #[s8,O A8 n8 c8] 46)).alloc (ag #[s8',O A8' n8' c8'] 46):=⟨_,rfl⟩;have Lj:w9.heap.size=w8.heap.size+2:=abx;have I4:aj w8 w8 w9:=by rw[CE];exact((aN _ _).alloc (aC _) _).alloc bB _
 have vT:aj w7 w7 w9:=aU yQ I4;have O1:=G (N1.below vT I);have O3:=G (N3.below vT I);have O4:af (ai w9 w8 46 #[s8,O A8 n8 c8]):=by show ai _ _ _ _;rw[CE];exact(ai.new w8 _ _).alloc _
 have Ma:af (bT w9 w9 (ax s6) (O A6 n6 c6) (rR a (g:Int))):=(NK.below (vT.mono I)).more I;have HR9:af (bT w9 w9 (ax s8) (O A8 n8 c8) (rR b (g:Int))):=(HQ8.below I4).more I;have yN:=G (aU jk vT);clear hq8 hr8 yQ I4 vT x2 x3 y0 y1 N0 N1 N2 N3 TE Sd NK HQ8;go_upto_region 6 with fail;rw[<-CE];clear CE;have x0:w9.cell? ⟨w6,0,J⟩=N (ax s6):=O3.cell 0;have x1:w9.cell? ⟨w6,1,J⟩=N (O A6 n6 c6):=O3.cell 1;have y0:w9.cell? ⟨w8,0,J⟩=N (ax s8):=O4.cell 0;have y1:w9.cell? ⟨w8,1,J⟩=N (O A8 n8 c8):=O4.cell 1;have z0:w9.cell? ⟨w.heap.size+1,0,J⟩=N (ax X):=O1.cell 0;have z1:w9.cell? ⟨w.heap.size+1,1,J⟩=N (O J 0 0):=O1.cell 1;have z2:w9.cell? ⟨w.heap.size+1,2,J⟩=N (ax X):=O1.cell 2;have z3:w9.cell? ⟨w.heap.size+1,3,J⟩=N (O J 0 0):=O1.cell 3;have zf:=O1.frozen;go_wp2_with fail;have hk:=aaH (a':=ax s6) (b':=O A6 n6 c6) (c':=ax s8) (d':=O A8 n8 c8) O1;have eH:=aaI (a:=ax s6) (b:=O A6 n6 c6) (c:=ax s8) (d:=O A8 n8 c8) (g:=w.heap.size+1) yN I;have h1:=Ma.Ox O1 (ax s6) (O A6 n6 c6) (ax s8) (O A8 n8 c8);have h2:=HR9.Ox O1 (ax s6) (O A6 n6 c6) (ax s8) (O A8 n8 c8);exact eX (awT hk rfl rfl) rfl ⟨_,_,_,_,rfl,h1.more aG,h2.more aG,eH⟩
theorem akW(n:Int)(w:Y):aF aa 216 #[n] w λe' w'=>e'=aI (bX n)/\w=w':=by have F:af (bX n=(decide (-1000000000000<=n)&&decide (n<=1000000000000))):=rfl;have k0:decide (n>= -1000000000000)=decide (-1000000000000<=n):=rfl;cases h1:decide (-1000000000000<=n)<;>cases h2:decide (n<=1000000000000);all_goals(rw[h1,h2] at F;rw[h1] at k0;go_enter func216,ntmps216;go_wp2_with fail;go_ret;exact⟨ic,rfl⟩)
def akX(a b:Int)(w:Y)(e:Ending)(w':Y):Prop:=
 ∃nn nm dn dm,e=aI (bz #[aD #[nn,nm,dn,dm],C D 0])/\bT w' w' nn nm a/\bT w' w' dn dm b/\aj w w w'
theorem awU(nn nm dn dm:ak)(a b:Int)(B:Nat)(w:Y)(ha:bT w B nn nm a)(hb:bT w B dn dm b)(hB:B<=w.heap.size)(aT:0<b)(aB:b<1000000000):
  aF aa 25 #[aD #[nn,nm],aD #[dn,dm]] w (akX (kJ a b).1 (kJ a b).2 w):=by
 have HA:=G ha;have yT:=G hb;obtain⟨rfl,Aa,na,ca,rfl⟩:=ha.forms;obtain⟨rfl,Ab,nb,cb,rfl⟩:=hb.forms;have zN:af (∀W,aj B w W->aF aa 69 #[aD #[ax (decide (b<0)),O Ab nb cb]] W λe w'=>e=aI (C D 1)/\aj W W w'):=by exact adQ
 have jg:af (∀W,aj B w W->B<=W.heap.size->aF aa 70 #[aD #[ax (decide (a<0)),O Aa na ca,ax (decide (b<0)),O Ab nb cb]] W (Xj (kJ a b).1 (kJ a b).2 W)):=λW h hs=>akV _ _ _ _ a b B W (HA.below h) (yT.below h) hs aT aB;generalize decide (a<0)=sa at*;generalize decide (b<0)=sb at*;generalize(kJ a b).1=ra at*;generalize(kJ a b).2=rb at*;clear ha hb aT aB HA yT;obtain⟨w3,dF⟩:∃w3:Y,w3=((w.alloc (ag #[sa,O Aa na ca] 46)).alloc (ag #[sb,O Ab nb cb] 46)).alloc (ag #[X,O J 0 0,X,O J 0 0] 48):=⟨_,rfl⟩;have bC:af (aj w w w3):=by exact TG
 have fM:w3.heap.size=w.heap.size+3:=KG;have K0:af (ai w3 w 46 #[sa,O Aa na ca]):=by show ai _ _ _ _;rw[dF];exact((ai.new w _ _).alloc _).alloc _
 have K1:af (ai w3 (w.heap.size+1) 46 #[sb,O Ab nb cb]):=by show ai _ _ _ _;rw[dF];have:=(ai.new (w.alloc (ag #[sa,O Aa na ca] 46)) 46 #[sb,O Ab nb cb]);rw[aW] at this;exact this.alloc _
 have K2:af (ai w3 (w.heap.size+2) 48 #[X,O J 0 0,X,O J 0 0]):=by show ai _ _ _ _;rw[dF];have:=(ai.new ((w.alloc (ag #[sa,O Aa na ca] 46)).alloc (ag #[sb,O Ab nb cb] 46)) 48 #[X,O J 0 0,X,O J 0 0]);rw[aW,aW] at this;exact this
 go_enter func25,ntmps25;go_upto_region 1 with fail;rw[<-dF];clear dF;have x0:w3.cell? ⟨w.heap.size+1,0,J⟩=N (ax sb):=K1.cell 0;have x1:w3.cell? ⟨w.heap.size+1,1,J⟩=N (O Ab nb cb):=K1.cell 1;go_wp2_with fail;refine(zN w3 (bC.mono hB)).mono ?_;rintro e' w4 ⟨rfl,bu⟩;have rH:=bu.size;have L0:=G (K0.below bu I);have L1:=G (K1.below bu I);have L2:=G (K2.below bu I);have dE:=G (aU bC bu);clear bu K0 K1 K2 x0 x1 zN;have x0:w4.cell? ⟨w,0,J⟩=N (ax sa):=L0.cell 0;have x1:w4.cell? ⟨w,1,J⟩=N (O Aa na ca):=L0.cell 1;have y0:w4.cell? ⟨w.heap.size+1,0,J⟩=N (ax sb):=L1.cell 0;have y1:w4.cell? ⟨w.heap.size+1,1,J⟩=N (O Ab nb cb):=L1.cell 1;go_wp2_with fail;refine(jg w4 (dE.mono hB) I).mono ?_;rintro e' w5 ⟨qn,qm,rn,rm,rfl,vS,Kh,cO⟩;have Bd:=G vS;have Ki:=G Kh;obtain⟨rfl,A5,n5,c5,rfl⟩:=vS.forms;obtain⟨rfl,A6,n6,c6,rfl⟩:=Kh.forms;generalize decide (ra<0)=s5 at*;generalize decide (rb<0)=s6 at*;have M2:=G (L2.below cO I);have fT:=G (aU dE cO);clear vS Kh cO L0 L1 L2 x0 x1 y0 y1 jg;have z0:w5.cell? ⟨w.heap.size+2,0,J⟩=N (ax X):=M2.cell 0;have z1:w5.cell? ⟨w.heap.size+2,1,J⟩=N (O J 0 0):=M2.cell 1;have z2:w5.cell? ⟨w.heap.size+2,2,J⟩=N (ax X):=M2.cell 2;have z3:w5.cell? ⟨w.heap.size+2,3,J⟩=N (O J 0 0):=M2.cell 3;have zf:=M2.frozen;go_wp2_with fail;have hk:=aaH (a':=ax s5) (b':=O A5 n5 c5) (c':=ax s6) (d':=O A6 n6 c6) M2;have eH:=aaI (a:=ax s5) (b:=O A5 n5 c5) (c:=ax s6) (d:=O A6 n6 c6) (g:=w.heap.size+2) fT I;have h1:=(Bd.Ox M2 (ax s5) (O A5 n5 c5) (ax s6) (O A6 n6 c6)).more (B':=((((w5.setCell ⟨w.heap.size+2,0,J⟩ (ax s5)).setCell ⟨w.heap.size+2,1,J⟩ (O A5 n5 c5)).setCell ⟨w.heap.size+2,2,J⟩ (ax s6)).setCell ⟨w.heap.size+2,3,J⟩ (O A6 n6 c6)).heap.size) aG;have h2:=(Ki.Ox M2 (ax s5) (O A5 n5 c5) (ax s6) (O A6 n6 c6)).more (B':=((((w5.setCell ⟨w.heap.size+2,0,J⟩ (ax s5)).setCell ⟨w.heap.size+2,1,J⟩ (O A5 n5 c5)).setCell ⟨w.heap.size+2,2,J⟩ (ax s6)).setCell ⟨w.heap.size+2,3,J⟩ (O A6 n6 c6)).heap.size) aG;generalize Bp _ ⟨w.heap.size+2,3,J⟩ _=wz at*;have c0:=hk.cell 0;have c1:=hk.cell 1;have c2:=hk.cell 2;have c3:=hk.cell 3;simp only[iH,iI,iX] at c0 c1 c2 c3;refine eX (v:=bz #[aD #[s5,O A5 n5 c5,s6,O A6 n6 c6],C D 0]) ?_ rfl ⟨_,_,_,_,rfl,h1,h2,eH⟩;simp[results,results25,go_sem,c0,c1,c2,c3]
theorem akY(a b:Int)(w:Y)(ha: -1000000000000000<=a)(ha2:a<=1000000000000000)(aT:0<b)(aB:b<1000000000):
  aF aa 7 #[a,b] w (akX (kJ a b).1 (kJ a b).2 w):=by have ni:=G (λW=>Xb a I I W);have iW:=G (λW=>Xb b I I W);have HNW:=G (λW nn nm dn dm (h1:bT W W nn nm a) (h2:bT W W dn dm b)=>awU nn nm dn dm a b W W h1 h2 (aC _) aT aB);generalize(kJ a b).1=ra at*;generalize(kJ a b).2=rb at*;have aJ:=(aN w w).alloc (aC _) (ag #[X,O J 0 0,X,O J 0 0] 48);have aS:=G aJ;have K0:=G (ai.new w 48 #[X,O J 0 0,X,O J 0 0]);have fw:(w.alloc (ag #[X,O J 0 0,X,O J 0 0] 48)).heap.size=w.heap.size+1:=aW _ _;clear aJ;go_enter func7,ntmps7;go_wp2_with fail;refine(ni _).mono ?_;rintro e' w3 ⟨⟨nn,nm,rfl,hi3⟩,aR⟩;have Cs:=G hi3;have fM:=aR.size;have bC:=G (aU aS aR);have L0:=G (K0.below aR I);clear hi3 aR K0 ni;(try dsimp only[uU]);go_wp2_with fail;refine(iW w3).mono ?_;rintro e' w4 ⟨⟨dn,dm,rfl,hi4⟩,bu⟩;have Dw:=G hi4;have rH:=bu.size;have awV:=G ((Cs.below bu).more rH);have dE:=G (aU bC bu);have M0:=G (L0.below bu I);clear hi4 bu L0 iW Cs;(try dsimp only[uU]);go_wp2_with fail;refine(HNW w4 nn nm dn dm awV Dw).mono ?_;rintro e' w5 ⟨qn,qm,rn,rm,rfl,vS,Kh,cO⟩;have Bd:=G vS;have Ki:=G Kh;obtain⟨rfl,A5,n5,c5,rfl⟩:=vS.forms;obtain⟨rfl,A6,n6,c6,rfl⟩:=Kh.forms;generalize decide (ra<0)=s5 at*;generalize decide (rb<0)=s6 at*;have M2:=G (M0.below cO I);have fT:=G (aU dE cO);clear vS Kh cO M0 HNW;have z0:w5.cell? ⟨w,0,J⟩=N (ax X):=M2.cell 0;have z1:w5.cell? ⟨w,1,J⟩=N (O J 0 0):=M2.cell 1;have z2:w5.cell? ⟨w,2,J⟩=N (ax X):=M2.cell 2;have z3:w5.cell? ⟨w,3,J⟩=N (O J 0 0):=M2.cell 3;have zf:=M2.frozen;go_wp2_with fail;have hk:=aaH (a':=ax s5) (b':=O A5 n5 c5) (c':=ax s6) (d':=O A6 n6 c6) M2;have eH:=aaI (a:=ax s5) (b:=O A5 n5 c5) (c:=ax s6) (d:=O A6 n6 c6) (g:=w.heap.size) fT I;have h1:=(Bd.Ox M2 (ax s5) (O A5 n5 c5) (ax s6) (O A6 n6 c6)).more (B':=((((w5.setCell ⟨w,0,J⟩ (ax s5)).setCell ⟨w,1,J⟩ (O A5 n5 c5)).setCell ⟨w,2,J⟩ (ax s6)).setCell ⟨w,3,J⟩ (O A6 n6 c6)).heap.size) aG;have h2:=(Ki.Ox M2 (ax s5) (O A5 n5 c5) (ax s6) (O A6 n6 c6)).more (B':=((((w5.setCell ⟨w,0,J⟩ (ax s5)).setCell ⟨w,1,J⟩ (O A5 n5 c5)).setCell ⟨w,2,J⟩ (ax s6)).setCell ⟨w,3,J⟩ (O A6 n6 c6)).heap.size) aG;generalize Bp _ ⟨w,3,J⟩ _=wz at*;have c0:=hk.cell 0;have c1:=hk.cell 1;have c2:=hk.cell 2;have c3:=hk.cell 3;simp only[iH,iI,iX] at c0 c1 c2 c3;refine eX (v:=bz #[aD #[s5,O A5 n5 c5,s6,O A6 n6 c6],C D 0]) ?_ rfl ⟨_,_,_,_,rfl,h1,h2,eH⟩;simp[results,results7,go_sem,c0,c1,c2,c3]
theorem adR(nn nm dn dm:ak)(a b:Int)(B:Nat)(w:Y)(ha:bT w B nn nm a)(hb:bT w B dn dm b)(hB:B<=w.heap.size)(aT:0<b):
  aF aa 259 #[aD #[nn,nm,dn,dm]] w λe w'=>e=aI (bz #[aD #[nn,nm],aD #[dn,dm]])/\aj w w w':=by
 have yT:=G hb;obtain⟨rfl,Aa,na,ca,rfl⟩:=ha.forms;obtain⟨rfl,Ab,nb,cb,rfl⟩:=hb.forms;have zN:af (∀W,aj B w W->aF aa 69 #[aD #[ax (decide (b<0)),O Ab nb cb]] W λe w'=>e=aI (C D 1)/\aj W W w'):=by exact adQ
 generalize decide (a<0)=sa at*;generalize decide (b<0)=sb at*;clear ha hb aT yT;obtain⟨w3,dF⟩:∃w3:Y,w3=((w.alloc (ag #[sa,O Aa na ca,sb,O Ab nb cb] 48)).alloc (ag #[X,O J 0 0] 46)).alloc (ag #[X,O J 0 0] 46):=⟨_,rfl⟩;have bC:af (aj w w w3):=by exact TG
 have fM:w3.heap.size=w.heap.size+3:=KG;have K0:af (ai w3 w 48 #[sa,O Aa na ca,sb,O Ab nb cb]):=by show ai _ _ _ _;rw[dF];exact((ai.new w _ _).alloc _).alloc _
 have K1:af (ai w3 (w.heap.size+1) 46 #[X,O J 0 0]):=by show ai _ _ _ _;rw[dF];have:=(ai.new (w.alloc (ag #[sa,O Aa na ca,sb,O Ab nb cb] 48)) 46 #[X,O J 0 0]);rw[aW] at this;exact this.alloc _
 have K2:af (ai w3 (w.heap.size+2) 46 #[X,O J 0 0]):=by show ai _ _ _ _;rw[dF];have:=(ai.new ((w.alloc (ag #[sa,O Aa na ca,sb,O Ab nb cb] 48)).alloc (ag #[X,O J 0 0] 46)) 46 #[X,O J 0 0]);rw[aW,aW] at this;exact this
 go_enter func259,ntmps259;go_upto_region 1 with fail;rw[<-dF];clear dF;have x2:w3.cell? ⟨w,2,J⟩=N (ax sb):=K0.cell 2;have x3:w3.cell? ⟨w,3,J⟩=N (O Ab nb cb):=K0.cell 3;go_wp2_with fail;refine(zN w3 (bC.mono hB)).mono ?_;rintro e' w4 ⟨rfl,bu⟩;have L0:=G (K0.below bu I);have L1:=G (K1.below bu I);have L2:=G (K2.below bu I);have dE:=G (aU bC bu);clear bu K0 K1 K2 x2 x3 zN;have x0:w4.cell? ⟨w,0,J⟩=N (ax sa):=L0.cell 0;have x1:w4.cell? ⟨w,1,J⟩=N (O Aa na ca):=L0.cell 1;have x2:w4.cell? ⟨w,2,J⟩=N (ax sb):=L0.cell 2;have x3:w4.cell? ⟨w,3,J⟩=N (O Ab nb cb):=L0.cell 3;have z0:w4.cell? ⟨w.heap.size+1,0,J⟩=N (ax X):=L1.cell 0;have z1:w4.cell? ⟨w.heap.size+1,1,J⟩=N (O J 0 0):=L1.cell 1;have zf:=L1.frozen;have y0:w4.cell? ⟨w.heap.size+2,0,J⟩=N (ax X):=L2.cell 0;have y1:w4.cell? ⟨w.heap.size+2,1,J⟩=N (O J 0 0):=L2.cell 1;have yf:=L2.frozen;go_upto_region 3 with fail;refine iA (S:=λW=>W.cell? ⟨w,0,J⟩=N (ax sa)/\W.cell? ⟨w,1,J⟩=N (O Aa na ca)/\W.cell? ⟨w,2,J⟩=N (ax sb)/\W.cell? ⟨w,3,J⟩=N (O Ab nb cb)) dh ⟨x0,x1,x2,x3⟩ (λbg=>?_);refine aA 0 ?_;refine aA 1 ?_;refine aA 2 ?_;refine aA 3 ?_;refine bK 4 (λK hK=>?_);go_simp;refine bF hK ae4 (λbg=>?_);clear hK K;refine bK 5 (λK hK=>?_);go_simp;refine bF hK ae4 (λbg=>?_);clear hK K;refine gI ?_;repeat clear bg
 go_wp2_with fail;have iL:=((set2 (a':=ax sa) (b':=O Aa na ca) L1).far (p:=⟨w.heap.size+2,0,J⟩) dY (ax sb)).far (p:=⟨w.heap.size+2,1,J⟩) dY (O Ab nb cb);have hr3:=set2 (a':=ax sb) (b':=O Ab nb cb) ((L2.far (p:=⟨w.heap.size+1,0,J⟩) dY (ax sa)).far (p:=⟨w.heap.size+1,1,J⟩) dY (O Aa na ca));have eH:=Cm (a:=ax sb) (b:=O Ab nb cb) (g:=w.heap.size+2) (Cm (a:=ax sa) (b:=O Aa na ca) (g:=w.heap.size+1) dE I) I;have c0:=iL.cell 0;have c1:=iL.cell 1;have c2:=hr3.cell 0;have c3:=hr3.cell 1;simp only[iH,iI,iX] at c0 c1 c2 c3;refine eX (v:=bz #[aD #[sa,O Aa na ca],aD #[sb,O Ab nb cb]]) ?_ rfl ⟨rfl,below_drewN eH 1⟩;simp[results,results259,go_sem,c0,c1,c2,c3]
theorem Oy{p:aK}(h:g≠p.block)(a b c d:ak):((((w.setCell ⟨g,0,J⟩ a).setCell ⟨g,1,J⟩ b).setCell ⟨g,2,J⟩ c).setCell ⟨g,3,J⟩ d).cell? p=w.cell? p:=by rw[World.cell?_setCell_far _ _ _ _ h,World.cell?_setCell_far _ _ _ _ h,World.cell?_setCell_far _ _ _ _ h,World.cell?_setCell_far _ _ _ _ h]
theorem awW{cs:Array ak}(h:ai w q 48 cs)(hs:cs.size=4)(h0:tmps.getD 4 undef=aQ q):(results f219 tmps).run aa w= .ok (aD cs) w:=results_cell_row results219 tmps w q 48 cs (0,0) _ h0 h underlying48 rfl Fa
theorem awX(nn nm dn dm nn' VR dn' dm':ak)(a b c d:Int)(B:Nat)(w:Y)(ha:bT w B nn nm a)(hb:bT w B dn dm b)(hc:bT w B nn' VR c)(hd:bT w B dn' dm' d)(hB:B<=w.heap.size)
  (aT:0<b) (aB:b<=1000) (uN:0<d) (pG:d<=1000) (wY:a.natAbs<BB ^ 100) (hc1:c.natAbs<BB ^ 100):
  aF aa 219 #[aD #[nn,nm,dn,dm],aD #[nn',VR,dn',dm']] w (Xj (kJ (a*c) (b*d)).1 (kJ (a*c) (b*d)).2 w):=by
 have akZ:0<b*d:=Int.mul_pos aT uN;have ak0:b*d<1000000000:=by have:b*d<=1000*1000:=Int.mul_le_mul aB pG I I;omega
 have jG:(1000:Nat)<BB ^ 100:=yA (show 1000<BB ^ 1 by unfold BB;omega) (Nat.pow_le_pow_right Dq I);have HA:=G ha;have yT:=G hb;have HC:=G hc;have HD:=G hd;obtain⟨rfl,Aa,na,ca,rfl⟩:=ha.forms;obtain⟨rfl,Ab,nb,cb,rfl⟩:=hb.forms;obtain⟨rfl,Ac,nc,cc,rfl⟩:=hc.forms;obtain⟨rfl,Ad,nd,cd,rfl⟩:=hd.forms;have jU:af (∀W,aj B w W->B<=W.heap.size->aF aa 259 #[aD #[ax (decide (a<0)),O Aa na ca,ax (decide (b<0)),O Ab nb cb]] W λe w'=>e=aI (bz #[aD #[ax (decide (a<0)),O Aa na ca],aD #[ax (decide (b<0)),O Ab nb cb]])/\aj W W w'):=λW h hs=>adR _ _ _ _ a b B W (HA.below h) (yT.below h) hs aT;have sI:af (∀W,aj B w W->B<=W.heap.size->aF aa 259 #[aD #[ax (decide (c<0)),O Ac nc cc,ax (decide (d<0)),O Ad nd cd]] W λe w'=>e=aI (bz #[aD #[ax (decide (c<0)),O Ac nc cc],aD #[ax (decide (d<0)),O Ad nd cd]])/\aj W W w'):=λW h hs=>adR _ _ _ _ c d B W (HC.below h) (HD.below h) hs uN;have zD:af (∀W,aj B w W->B<=W.heap.size->aF aa 261 #[aD #[ax (decide (a<0)),O Aa na ca],aD #[ax (decide (c<0)),O Ac nc cc]] W (Dr (a*c) W)):=λW h hs=>aaG _ _ _ _ a c B W (HA.below h) (HC.below h) hs wY hc1;have wR:af (∀W,aj B w W->B<=W.heap.size->aF aa 261 #[aD #[ax (decide (b<0)),O Ab nb cb],aD #[ax (decide (d<0)),O Ad nd cd]] W (Dr (b*d) W)):=λW h hs=>aaG _ _ _ _ b d B W (yT.below h) (HD.below h) hs I I;have jg:af (∀W nn nm dn dm,bT W W nn nm (a*c)->bT W W dn dm (b*d)->aF aa 70 #[aD #[nn,nm,dn,dm]] W (Xj (kJ (a*c) (b*d)).1 (kJ (a*c) (b*d)).2 W)):=λW nn nm dn dm h1 h2=>akV nn nm dn dm (a*c) (b*d) W W h1 h2 (aC _) akZ ak0;generalize decide (a<0)=sa at*;generalize decide (b<0)=sb at*;generalize decide (c<0)=sc at*;generalize decide (d<0)=sd at*;generalize(kJ (a*c) (b*d)).1=ra at*;generalize(kJ (a*c) (b*d)).2=rb at*;generalize hac:a*c=ac at*;generalize kr:b*d=bd at*;clear ha hb hc hd aT aB uN pG wY hc1 akZ ak0 jG HA yT HC HD hac kr;obtain⟨w3,dF⟩:∃w3:Y,w3=((w.alloc (ag #[sa,O Aa na ca,sb,O Ab nb cb] 48)).alloc (ag #[sc,O Ac nc cc,sd,O Ad nd cd] 48)).alloc (ag #[X,O J 0 0,X,O J 0 0] 48):=⟨_,rfl⟩;have bC:af (aj w w w3):=by exact TG
 have fM:w3.heap.size=w.heap.size+3:=KG;have K0:af (ai w3 w 48 #[sa,O Aa na ca,sb,O Ab nb cb]):=by show ai _ _ _ _;rw[dF];exact((ai.new w _ _).alloc _).alloc _
 have K1:af (ai w3 (w.heap.size+1) 48 #[sc,O Ac nc cc,sd,O Ad nd cd]):=by show ai _ _ _ _;rw[dF];have:=(ai.new (w.alloc (ag #[sa,O Aa na ca,sb,O Ab nb cb] 48)) 48 #[sc,O Ac nc cc,sd,O Ad nd cd]);rw[aW] at this;exact this.alloc _
 have K2:af (ai w3 (w.heap.size+2) 48 #[X,O J 0 0,X,O J 0 0]):=by show ai _ _ _ _;rw[dF];have:=(ai.new ((w.alloc (ag #[sa,O Aa na ca,sb,O Ab nb cb] 48)).alloc (ag #[sc,O Ac nc cc,sd,O Ad nd cd] 48)) 48 #[X,O J 0 0,X,O J 0 0]);rw[aW,aW] at this;exact this
 go_enter func219,ntmps219;go_upto_region 1 with fail;rw[<-dF];clear dF;have x0:w3.cell? ⟨w,0,J⟩=N (ax sa):=K0.cell 0;have x1:w3.cell? ⟨w,1,J⟩=N (O Aa na ca):=K0.cell 1;have x2:w3.cell? ⟨w,2,J⟩=N (ax sb):=K0.cell 2;have x3:w3.cell? ⟨w,3,J⟩=N (O Ab nb cb):=K0.cell 3;go_wp2_with fail;refine(jU w3 (bC.mono hB) I).mono ?_;rintro e' w4 ⟨rfl,bu⟩;have rH:=bu.size;obtain⟨w5,ym⟩:∃w5:Y,w5=(w4.alloc (ag #[sa,O Aa na ca] 46)).alloc (ag #[sb,O Ab nb cb] 46):=⟨_,rfl⟩;have BJ:w5.heap.size=w4.heap.size+2:=aby;have Xk:aj w4 w4 w5:=by rw[ym];exact((aN _ _).alloc (aC _) _).alloc bB _
 have xV:aj w3 w3 w5:=aU bu Xk;have L1:=G (K1.below xV I);have L2:=G (K2.below xV I);have L3:af (ai w5 w4 46 #[sa,O Aa na ca]):=by show ai _ _ _ _;rw[ym];exact(ai.new w4 _ _).alloc _
 have L4:af (ai w5 (w4.heap.size+1) 46 #[sb,O Ab nb cb]):=by show ai _ _ _ _;rw[ym];have:=(ai.new (w4.alloc (ag #[sa,O Aa na ca] 46)) 46 #[sb,O Ab nb cb]);rw[aW] at this;exact this
 have fT:=G (aU bC xV);clear bu Xk xV K0 K1 K2 x0 x1 x2 x3 jU;go_upto_region 2 with fail;rw[<-ym];clear ym;have x0:w5.cell? ⟨w.heap.size+1,0,J⟩=N (ax sc):=L1.cell 0;have x1:w5.cell? ⟨w.heap.size+1,1,J⟩=N (O Ac nc cc):=L1.cell 1;have x2:w5.cell? ⟨w.heap.size+1,2,J⟩=N (ax sd):=L1.cell 2;have x3:w5.cell? ⟨w.heap.size+1,3,J⟩=N (O Ad nd cd):=L1.cell 3;go_wp2_with fail;refine(sI w5 (fT.mono hB) I).mono ?_;rintro e' w6 ⟨rfl,dJ⟩;have Eg:=dJ.size;obtain⟨w7,sj⟩:∃w7:Y,w7=(w6.alloc (ag #[sc,O Ac nc cc] 46)).alloc (ag #[sd,O Ad nd cd] 46):=⟨_,rfl⟩;have Dl:w7.heap.size=w6.heap.size+2:=by rw[sj];simp only[aW]
 have TK:aj w6 w6 w7:=ae0;have GD:aj w5 w5 w7:=aU dJ TK;have N2:=G (L2.below GD I);have N3:=G (L3.below GD I);have N4:=G (L4.below GD I);have N5:af (ai w7 w6 46 #[sc,O Ac nc cc]):=by show ai _ _ _ _;rw[sj];exact(ai.new w6 _ _).alloc _
 have N6:af (ai w7 (w6.heap.size+1) 46 #[sd,O Ad nd cd]):=by show ai _ _ _ _;rw[sj];have:=(ai.new (w6.alloc (ag #[sc,O Ac nc cc] 46)) 46 #[sd,O Ad nd cd]);rw[aW] at this;exact this
 have jk:=G (aU fT GD);clear dJ TK GD L1 L2 L3 L4 x0 x1 x2 x3 sI;go_upto_region 3 with fail;rw[<-sj];clear sj;have x0:w7.cell? ⟨w4,0,J⟩=N (ax sa):=N3.cell 0;have x1:w7.cell? ⟨w4,1,J⟩=N (O Aa na ca):=N3.cell 1;have x2:w7.cell? ⟨w4.heap.size+1,0,J⟩=N (ax sb):=N4.cell 0;have x3:w7.cell? ⟨w4.heap.size+1,1,J⟩=N (O Ab nb cb):=N4.cell 1;have x4:w7.cell? ⟨w6,0,J⟩=N (ax sc):=N5.cell 0;have x5:w7.cell? ⟨w6,1,J⟩=N (O Ac nc cc):=N5.cell 1;have x6:w7.cell? ⟨w6.heap.size+1,0,J⟩=N (ax sd):=N6.cell 0;have x7:w7.cell? ⟨w6.heap.size+1,1,J⟩=N (O Ad nd cd):=N6.cell 1;refine iA (S:=λW=>W.cell? ⟨w4,0,J⟩=N (ax sa)/\W.cell? ⟨w4,1,J⟩=N (O Aa na ca)/\W.cell? ⟨w4.heap.size+1,0,J⟩=N (ax sb)/\W.cell? ⟨w4.heap.size+1,1,J⟩=N (O Ab nb cb)/\W.cell? ⟨w6,0,J⟩=N (ax sc)/\W.cell? ⟨w6,1,J⟩=N (O Ac nc cc)/\W.cell? ⟨w6.heap.size+1,0,J⟩=N (ax sd)/\W.cell? ⟨w6.heap.size+1,1,J⟩=N (O Ad nd cd)) dh ⟨x0,x1,x2,x3,x4,x5,x6,x7⟩ (λbg=>?_);refine aA 0 ?_;refine aA 1 ?_;refine aA 3 ?_;refine aA 4 ?_;refine bK 2 (λK hK=>?_);go_simp;refine(zD w7.drew (below_drewN (jk.mono hB) 1) (by simp only[G7];omega)).mono ?_;rintro e' w8 ⟨⟨nv2,mv2,rfl,Ct⟩,aJ⟩;have sV:=G Ct;obtain⟨rfl,A2,n2,c2,rfl⟩:=Ct.forms;(try dsimp only[uU]);have vv:aj w7 w7 w8:=TC aJ;have Qk:=vv.size;refine bF hK (by exact⟨(vv.cell dY).trans x0,(vv.cell dY).trans x1,(vv.cell dY).trans x2,(vv.cell dY).trans x3,(vv.cell dY).trans x4,(vv.cell dY).trans x5,(vv.cell dY).trans x6,(vv.cell dY).trans x7⟩) (λbg=>?_);clear hK K;refine bK 5 (λK hK=>?_);go_simp;refine(wR w8 ((jk.mono hB).trans (vv.mono I)) I).mono ?_;rintro e' w9 ⟨⟨nv5,mv5,rfl,vS⟩,cO⟩;have Bd:=G vS;obtain⟨rfl,A5,n5,c5,rfl⟩:=vS.forms;(try dsimp only[uU]);have oH:aj w7 w7 w9:=aU vv cO;have Lj:=cO.size;have awY:=G ((sV.below cO).more Lj);refine bF hK (by exact⟨(oH.cell dY).trans x0,(oH.cell dY).trans x1,(oH.cell dY).trans x2,(oH.cell dY).trans x3,(oH.cell dY).trans x4,(oH.cell dY).trans x5,(oH.cell dY).trans x6,(oH.cell dY).trans x7⟩) (λbg=>?_);clear hK K;refine aA 6 ?_;refine bK 7 (λK hK=>?_);go_simp;refine(jg w9 _ _ _ _ awY Bd).mono ?_;rintro e' pO ⟨qn,qm,rn,rm,rfl,TD,hj7,fF⟩;have TE:=G TD;have Oz:=G hj7;obtain⟨rfl,A7,n7,c7,rfl⟩:=TD.forms;obtain⟨rfl,A8,n8,c8,rfl⟩:=hj7.forms;generalize decide (ra<0)=s7 at*;generalize decide (rb<0)=s8 at*;(try dsimp only);have uV:aj w7 w7 pO:=aU oH fF;have M2:=N2.below uV I;have z0:pO.cell? ⟨w.heap.size+2,0,J⟩=N (ax X):=M2.cell 0;have z1:pO.cell? ⟨w.heap.size+2,1,J⟩=N (O J 0 0):=M2.cell 1;have z2:pO.cell? ⟨w.heap.size+2,2,J⟩=N (ax X):=M2.cell 2;have z3:pO.cell? ⟨w.heap.size+2,3,J⟩=N (O J 0 0):=M2.cell 3;have zf:=M2.frozen;have X0:pO.cell? ⟨w4,0,J⟩=N (ax sa):=(uV.cell dY).trans x0;have X1:pO.cell? ⟨w4,1,J⟩=N (O Aa na ca):=(uV.cell dY).trans x1;have X2:pO.cell? ⟨w4.heap.size+1,0,J⟩=N (ax sb):=(uV.cell dY).trans x2;have X3:pO.cell? ⟨w4.heap.size+1,1,J⟩=N (O Ab nb cb):=(uV.cell dY).trans x3;have X4:pO.cell? ⟨w6,0,J⟩=N (ax sc):=(uV.cell dY).trans x4;have X5:pO.cell? ⟨w6,1,J⟩=N (O Ac nc cc):=(uV.cell dY).trans x5;have X6:pO.cell? ⟨w6.heap.size+1,0,J⟩=N (ax sd):=(uV.cell dY).trans x6;have X7:pO.cell? ⟨w6.heap.size+1,1,J⟩=N (O Ad nd cd):=(uV.cell dY).trans x7;have wG:w.heap.size+2≠w4.heap.size:=I;have Gb:w.heap.size+2≠w4.heap.size+1:=I;have hn3:w.heap.size+2≠w6.heap.size:=I;have hn4:w.heap.size+2≠w6.heap.size+1:=I;refine bF hK (by exact⟨X0,X1,X2,X3,X4,X5,X6,X7⟩) (λbg=>?_);clear hK K;refine bK 8 (λK hK=>?_);go_simp;refine bF hK (by exact⟨(Oy wG _ _ _ _).trans X0,(Oy wG _ _ _ _).trans X1,(Oy Gb _ _ _ _).trans X2,(Oy Gb _ _ _ _).trans X3,(Oy hn3 _ _ _ _).trans X4,(Oy hn3 _ _ _ _).trans X5,(Oy hn4 _ _ _ _).trans X6,(Oy hn4 _ _ _ _).trans X7⟩) (λbg=>?_);clear hK K;refine gI ?_;repeat clear bg
 go_wp2_with fail;have hk:=aaH (a':=ax s7) (b':=O A7 n7 c7) (c':=ax s8) (d':=O A8 n8 c8) M2;have eH:=aaI (a:=ax s7) (b:=O A7 n7 c7) (c:=ax s8) (d:=O A8 n8 c8) (g:=w.heap.size+2) (jk.trans (uV.mono I)) I;have h1:=TE.Ox M2 (ax s7) (O A7 n7 c7) (ax s8) (O A8 n8 c8);have h2:=Oz.Ox M2 (ax s7) (O A7 n7 c7) (ax s8) (O A8 n8 c8);exact eX (awW hk rfl rfl) rfl ⟨_,_,_,_,rfl,h1.more aG,h2.more aG,eH⟩
noncomputable def I5 (n:Nat):Code->Array Oper
 | .region k ops _=>if k=n then ops else #[]
 | .seq a b=>if(I5 n a).size=0 then I5 n b else I5 n a
 | .cond _ a b=>if(I5 n a).size=0 then I5 n b else I5 n a
 | .block _ a=>I5 n a
 | .loop a=>I5 n a
 | .scope a=>I5 n a
 |_=>#[]
def ak1(f:Func):Code:=match f.body with
 |some c=>c
 |none=> .skip
noncomputable def OA: {x:Array Oper // I5 6 (ak1 f218)=x}:=by
 refine⟨?x,?h⟩
 case h=>
  delta f218
  simp only[ak1,I5,AX,pV,iP,Nat.reduceAdd,Nat.reduceEqDiff,if_true,if_false,Nat.add_eq_zero_iff,and_false,ite_true,ite_false,reduceIte]
  rfl
noncomputable def Mf:Array Oper:=OA.1
theorem bT.aaJ{neg:ak}{b0:Bool}{A1:Option aK}{c1:Nat}(h:bT w B neg dV z)(hk:ai w g T #[b0,O A1 n1 c1])(a b:ak):
  bT ((w.setCell ⟨g,0,J⟩ a).setCell ⟨g,1,J⟩ b) B neg dV z:=by have h0:w.cell? ⟨g,0,J⟩=N (ax b0):=hk.cell 0;have k1:=hk.bL 0 a;have h1:(w.setCell ⟨g,0,J⟩ a).cell? ⟨g,1,J⟩=N (O A1 n1 c1):=k1.cell 1;exact(h.store h0 (λ_ h=>nomatch h) a).store h1 (λ_ h=>nomatch h) b
structure IV where
 s:Bool
 A:Option aK
 n:Nat
 c:Nat
structure Kj(lo:Nat)(W:Y)(b c:Bool)(t u:ak):Prop where
 x:b=Z->∃p,t=aQ (N ⟨p,0,J⟩)/\lo<=p/\ai W p 46 #[ax X,O J 0 0]
 y:c=Z->∃p,u=aQ (N ⟨p,0,J⟩)/\lo<=p/\ai W p 46 #[ax X,O J 0 0]
 n:b=Z->c=Z->t≠u
def Dx(W:Y)(l:List (IV × Int)):Prop:=∀x∈l,bT W W (ax x.1.s) (O x.1.A x.1.n x.1.c) x.2
section
variable{lo:Nat}{W W':Y}{b c:Bool}{t u:ak}{l:List (IV × Int)}
theorem Dx.below(h:Dx W l)(hb:aj W W W'):Dx W' l:=λx hx=>((h x hx).below hb).more hb.size
theorem Dx.nil:Dx W []:=λx hx=>by cases hx
theorem Dx.cons(h:bT W W (ax b) (O A n k) z)(hl:Dx W l):Dx W ((⟨b,A,n,k⟩,z)::l):=λx hx=>by
 rcases jZ.1 hx with rfl|hx;·exact h
 ·exact hl x hx
theorem Kj.below(h:Kj lo W b c t u)(hb:aj W W W'):Kj lo W' b c t u:=⟨λe=>let ⟨p,q,r,k⟩:=h.x e;⟨p,q,r,k.below hb k.lt⟩,λe=>let ⟨p,q,r,k⟩:=h.y e;⟨p,q,r,k.below hb k.lt⟩,h.n⟩
theorem Kj.ak2(h:Kj lo W X c t u)(hl:lo<=W.heap.size):Kj lo (W.alloc (ag #[X,O J 0 0] 46)) Z c (aQ W) u:=⟨λ_=>⟨_,rfl,hl,ai.new _ _ _⟩,λe=>let ⟨p,q,r,k⟩:=h.y e;⟨p,q,r,k.alloc _⟩,λ_ e q=>by obtain⟨p,rfl,_,k⟩:=h.y e;have:=k.lt;simp only[Value.pointer.injEq,kH,Addr.mk.injEq] at q;omega⟩
theorem Kj.ak3(h:Kj lo W b X t u)(hl:lo<=W.heap.size):Kj lo (W.alloc (ag #[X,O J 0 0] 46)) b Z t (aQ W):=⟨λe=>let ⟨p,q,r,k⟩:=h.x e;⟨p,q,r,k.alloc _⟩,λ_=>⟨_,rfl,hl,ai.new _ _ _⟩,λe _ q=>by obtain⟨p,rfl,_,k⟩:=h.x e;have:=k.lt;simp only[Value.pointer.injEq,kH,Addr.mk.injEq] at q;omega⟩
end
theorem Xl(h:R:=by go_simp;have hb:=(aN W W).alloc (aC _) (ag #[X,O J 0 0] 46);refine hK.out _ _ (ht.trans (hb.mono ht.size)) (λ_=>?_);simp only[uB,pY,oh,oP,uC,uD,uE];first|exact L1 _ _ _ m d n q r (ht.trans (hb.mono ht.size)) (kP.ak2 ht.size) (hi.below hb)|exact L1 _ _ _ m d n q r (ht.trans (hb.mono ht.size)) (kP.ak3 ht.size) (hi.below hb)|exact L2 _ _ _ m d n q r (ht.trans (hb.mono ht.size)) (kP.ak2 ht.size) (hi.below hb)|exact L3 _ _ _ m d n q r (ht.trans (hb.mono ht.size)) (kP.ak3 ht.size) (hi.below hb)):R:=h
theorem awZ(h:R:=by go_simp;refine(CM1 W ht).mono ?_;rintro e' wn ⟨⟨nv,mv,rfl,hj⟩,hb⟩;obtain⟨rfl,A,n',c,rfl⟩:=hj.forms;(try dsimp only[uU]);refine hK.out _ _ (ht.trans (hb.mono ht.size)) (λ_=>?_);simp only[uB,pY,oh,oP,uC,uD,uE];have fi:=Dx.cons hj .nil;first|exact G1 _ _ _ ⟨_,A,n',c⟩ d n q r (ht.trans (hb.mono ht.size)) (kP.below hb) fi|exact G2 _ _ _ ⟨_,A,n',c⟩ d n q r (ht.trans (hb.mono ht.size)) (kP.below hb) fi|exact G3 _ _ _ ⟨_,A,n',c⟩ d n q r (ht.trans (hb.mono ht.size)) (kP.below hb) fi|exact G4 _ _ _ ⟨_,A,n',c⟩ d n q r (ht.trans (hb.mono ht.size)) (kP.below hb) fi):R:=h
theorem aw0(h:R:=by go_simp;refine(CAD W _ _ ht (hi _ (.head _))).mono ?_;rintro e' wn ⟨⟨nv,mv,rfl,hj⟩,hb⟩;obtain⟨rfl,A,n',c,rfl⟩:=hj.forms;(try dsimp only[uU]);refine hK.out _ _ (ht.trans (hb.mono ht.size)) (λ_=>?_);simp only[uB,pY,oh,oP,uC,uD,uE];have fi:=Dx.cons hj .nil;first|exact G1 _ _ _ m ⟨_,A,n',c⟩ n q r (ht.trans (hb.mono ht.size)) (kP.below hb) fi|exact G2 _ _ _ m ⟨_,A,n',c⟩ n q r (ht.trans (hb.mono ht.size)) (kP.below hb) fi|exact G3 _ _ _ m ⟨_,A,n',c⟩ n q r (ht.trans (hb.mono ht.size)) (kP.below hb) fi|exact G4 _ _ _ m ⟨_,A,n',c⟩ n q r (ht.trans (hb.mono ht.size)) (kP.below hb) fi):R:=h
theorem aw1(h:R:=by go_simp;refine(CM2 W ht).mono ?_;rintro e' wn ⟨⟨nv,mv,rfl,hj⟩,hb⟩;obtain⟨rfl,A,n',c,rfl⟩:=hj.forms;(try dsimp only[uU]);refine hK.out _ _ (ht.trans (hb.mono ht.size)) (λ_=>?_);simp only[uB,pY,oh,oP,uC,uD,uE];have fi:=Dx.cons hj (hi.below hb);first|exact G1 _ _ _ m d ⟨_,A,n',c⟩ q r (ht.trans (hb.mono ht.size)) (kP.below hb) fi|exact G2 _ _ _ m d ⟨_,A,n',c⟩ q r (ht.trans (hb.mono ht.size)) (kP.below hb) fi|exact G3 _ _ _ m d ⟨_,A,n',c⟩ q r (ht.trans (hb.mono ht.size)) (kP.below hb) fi|exact G4 _ _ _ m d ⟨_,A,n',c⟩ q r (ht.trans (hb.mono ht.size)) (kP.below hb) fi):R:=h
theorem aw2(h:R:=by go_simp;refine(CQR W _ _ _ _ (hi _ (.tail _ (.head _))) (hi _ (.head _))).mono ?_;rintro e' wn ⟨qn,qm,rn,rm,rfl,hq,hr,hb⟩;rw[FR.E] at hq;obtain⟨rfl,A,n',c,rfl⟩:=hq.forms;obtain⟨rfl,A',Ep,c',rfl⟩:=hr.forms;(try dsimp only);have ft:=ht.trans (hb.mono ht.size);refine hK.out _ _ ft (λ_=>?_);simp only[uB,pY,oh,oP,uC,uD,uE];refine aA 9 ?_ (hQ:=λ_ _ _ h=>hp _ _ _ _ _ h);refine aA 10 ?_ (hQ:=λ_ _ _ h=>hp _ _ _ _ _ h);refine aA 11 ?_ (hQ:=λ_ _ _ h=>hp _ _ _ _ _ h);refine aA 12 ?_ (hQ:=λ_ _ _ h=>hp _ _ _ _ _ h);have fi:=Dx.cons hq .nil;first|exact G1 _ _ _ m d n ⟨_,A,n',c⟩ ⟨_,A',Ep,c'⟩ (ht.trans (hb.mono ht.size)) (kP.below hb) fi|exact G2 _ _ _ m d n ⟨_,A,n',c⟩ ⟨_,A',Ep,c'⟩ (ht.trans (hb.mono ht.size)) (kP.below hb) fi|exact G3 _ _ _ m d n ⟨_,A,n',c⟩ ⟨_,A',Ep,c'⟩ (ht.trans (hb.mono ht.size)) (kP.below hb) fi|exact G4 _ _ _ m d n ⟨_,A,n',c⟩ ⟨_,A',Ep,c'⟩ (ht.trans (hb.mono ht.size)) (kP.below hb) fi):R:=h
theorem anK(h:R:=by
  intro W t u m d n q r ht kP hi;dsimp only[Mf,OA];first|refine bK 2 ?_ (hr:=by decide +kernel)|refine uF 2 13 ?_ ?_ (hr:=by decide +kernel)|refine uF 2 14 ?_ ?_ (hr:=by decide +kernel)|refine Y9 2 13 14 ?_ ?_ ?_ (hr:=by decide +kernel)
  all_goals(intro K hK;first|exact awZ|exact Xl)):R:=h
theorem anJ(h:R:=by
  intro W t u m d n q r ht kP hi;dsimp only[Mf,OA];first|refine bK 4 ?_ (hr:=by decide +kernel)|refine uF 4 13 ?_ ?_ (hr:=by decide +kernel)|refine uF 4 14 ?_ ?_ (hr:=by decide +kernel)|refine Y9 4 13 14 ?_ ?_ ?_ (hr:=by decide +kernel)
  all_goals(intro K hK;first|exact aw0|exact Xl)):R:=h
theorem anI(h:R:=by
  intro W t u m d n q r ht kP hi;dsimp only[Mf,OA];first|refine bK 7 ?_ (hr:=by decide +kernel)|refine uF 7 13 ?_ ?_ (hr:=by decide +kernel)|refine uF 7 14 ?_ ?_ (hr:=by decide +kernel)|refine Y9 7 13 14 ?_ ?_ ?_ (hr:=by decide +kernel)
  all_goals(intro K hK;first|exact aw1|exact Xl)):R:=h
theorem anH(h:R:=by
  intro W t u m d n q r ht kP hi;dsimp only[Mf,OA];first|refine bK 8 ?_ (hr:=by decide +kernel)|refine uF 8 13 ?_ ?_ (hr:=by decide +kernel)|refine uF 8 14 ?_ ?_ (hr:=by decide +kernel)|refine Y9 8 13 14 ?_ ?_ ?_ (hr:=by decide +kernel)
  all_goals(intro K hK;first|exact aw2|exact Xl)):R:=h
theorem adS(h:R:=by
  dsimp only[gN,X4,TM];intro W t u m d n q r ht kP hi;dsimp only[Mf,OA];first|refine uF 13 14 ?_ ?_ (hr:=by decide +kernel)|refine bK 13 ?_ (hr:=by decide +kernel)|refine bK 14 ?_ (hr:=by decide +kernel)
  all_goals(intro K hK;exact Xl)):R:=h
theorem ak4(a b:Int)(aT:0<b)(aB:b<=1000)(wY:a.natAbs<=1000000000000000000)(w9:Y)(q3 q4 q5 q6:Nat)(Mg:Bool)(Mh:Option aK)(Mi Mj:Nat)(TL:Bool)(TN:Option aK)(TP TQ:Nat)(TS:Bool)(TT:Option aK)(TU TV:Nat)(TW:Bool)(TY:Option aK)(TZ T9:Nat)
  (adT:bT w9 w9.heap.size (ax Mg) (O Mh Mi Mj) 2) (ak5:bT w9 w9.heap.size (ax TL) (O TN TP TQ) a) (ak6:bT w9 w9.heap.size (ax TS) (O TT TU TV) (if a<0 then -b else b)) (ak7:bT w9 w9.heap.size (ax TW) (O TY TZ T9) b)
  (K6:ai w9 q6 46 #[ax Mg,O Mh Mi Mj]) (K3:ai w9 q3 46 #[ax TL,O TN TP TQ]) (K5:ai w9 q5 46 #[ax TS,O TT TU TV]) (K4:ai w9 q4 46 #[ax TW,O TY TZ T9])
  (u0 u1 u2 u7 u8 u9 u10 u11 u12 u13 u14 u15 u16 u17 u18 u19 u20 u21 u22 u23 u24 u25 u26 u27 u28 u29 u30 u31 u32 u33 u34 u35:ak) (Q:Exit->Act->Y->Prop)
  (hp:∀c (a:Act) d v w,Q (.panic c) (a.put d v) w->Q (.panic c) a w)
  (hQ:∀(p7 p8:Nat) (sm1:Bool) (Am1:Option aK) (yC cm1:Nat) (sad:Bool) (Aad:Option aK) (nad cad:Nat) (sm2:Bool) (Am2:Option aK) (fQ cm2:Nat) (sq:Bool) (Aq:Option aK) (nq cq:Nat) (sr:Bool) (Ar:Option aK) (nr cr:Nat) (wz:Y),ai wz p7 46 #[ax sq,O Aq nq cq]->bT wz wz.heap.size (ax sq) (O Aq nq cq) (BV a b)->aj w9.heap.size w9 wz->Q .normal {tmps:=#[u0,u1,u2,aQ (N ⟨q3,0,J⟩),aQ (N ⟨q4,0,J⟩),aQ (N ⟨q5,0,J⟩),aQ (N ⟨q6,0,J⟩),aQ (N ⟨p7,0,J⟩),aQ (N ⟨p8,0,J⟩),C D 0,u10,u11,u12,u13,u14,u15,u16,u17,u18,u19,u20,u21,bz #[aD #[ax sq,O Aq nq cq],aD #[ax sr,O Ar nr cr],C D 0],aD #[ax Mg,O Mh Mi Mj],aD #[ax TL,O TN TP TQ],aD #[ax sm1,O Am1 yC cm1],aD #[ax TS,O TT TU TV],aD #[ax sad,O Aad nad cad],aD #[ax Mg,O Mh Mi Mj],aD #[ax TW,O TY TZ T9],aD #[ax sm2,O Am2 fQ cm2],bz #[aD #[ax sq,O Aq nq cq],aD #[ax sr,O Ar nr cr],C D 0],aD #[ax sq,O Aq nq cq],aD #[ax sr,O Ar nr cr],C D 0,u35],defers:= []} wz):
  (Code.region 6 Mf Z).wp aa Q {tmps:=#[u0,u1,u2,aQ (N ⟨q3,0,J⟩),aQ (N ⟨q4,0,J⟩),aQ (N ⟨q5,0,J⟩),aQ (N ⟨q6,0,J⟩),u7,u8,u9,u10,u11,u12,u13,u14,u15,u16,u17,u18,u19,u20,u21,u22,u23,u24,u25,u26,u27,u28,u29,u30,u31,u32,u33,u34,u35],defers:= []} w9:=by
 have jG:(10000000000000000000:Nat)<BB ^ 100:=yA (show(10000000000000000000:Nat)<BB ^ 3 by unfold BB;omega) (Nat.pow_le_pow_right Dq I);have CM1:af (∀W,aj w9.heap.size w9 W->aF aa 261 #[aD #[ax Mg,O Mh Mi Mj],aD #[ax TL,O TN TP TQ]] W (Dr (2*a) W)):=λW h=>aaG _ _ _ _ 2 a w9.heap.size W (adT.below h) (ak5.below h) h.size I I;have CM2:af (∀W,aj w9.heap.size w9 W->aF aa 261 #[aD #[ax Mg,O Mh Mi Mj],aD #[ax TW,O TY TZ T9]] W (Dr (2*b) W)):=λW h=>aaG _ _ _ _ 2 b w9.heap.size W (adT.below h) (ak7.below h) h.size I I;have CAD:af (∀W n m,aj w9.heap.size w9 W->bT W W.heap.size n m (2*a)->aF aa 260 #[aD #[n,m],aD #[ax TS,O TT TU TV]] W (Dr (2*a+if a<0 then -b else b) W)):=by
  intro W n m h h1;refine awK n m _ _ _ _ W.heap.size W h1 ((ak6.below h).more h.size) (aC _) I (by split<;>omega) ?_;by_cases hn:a<0;·rw[if_pos hn,decide_eq_true I,decide_eq_true I]
  rw[if_neg hn,decide_eq_false I,decide_eq_false I]
 have CQR:af (∀W n m n' m',bT W W.heap.size n m (2*a+if a<0 then -b else b)->bT W W.heap.size n' m' (2*b)->aF aa 134 #[aD #[n,m],aD #[n',m']] W (aaC (2*a+if a<0 then -b else b) (2*b) W)):=λW n m n' m' h1 h2=>adN n m n' m' _ _ W.heap.size W h1 h2 (aC _) I I;have FR:af (rR (2*a+if a<0 then -b else b) (2*b)=BV a b):=rfl;have HQ:=G hQ;have zJ:=G K6;have zm:=G K3;have Ba:=G K5;have IJ:=G K4;clear hQ K6 K3 K5 K4 adT ak5 ak6 ak7 jG aT aB wY;let TM:ak->ak->ak->ak->ak->ak->ak->ak->ak->ak->Act:=λt u zP x25 vU uW uX vV x33 x34=> {tmps:=#[u0,u1,u2,aQ (N ⟨q3,0,J⟩),aQ (N ⟨q4,0,J⟩),aQ (N ⟨q5,0,J⟩),aQ (N ⟨q6,0,J⟩),t,u,u9,u10,u11,u12,u13,u14,u15,u16,u17,u18,u19,u20,u21,zP,aD #[ax Mg,O Mh Mi Mj],aD #[ax TL,O TN TP TQ],x25,aD #[ax TS,O TT TU TV],vU,aD #[ax Mg,O Mh Mi Mj],aD #[ax TW,O TY TZ T9],uW,uX,vV,x33,x34,u35],defers:= []};let gN:(Bool->Bool->Array Bool)->(IV->IV->IV->IV->IV->List (IV × Int))->(IV->IV->IV->IV->IV->ak->ak->Act)->Bool->Bool->Nat->Prop:=λL aw3 jV b c f=>∀(W:Y) (t u:ak) (m d n q r:IV),aj w9.heap.size w9 W->Kj w9.heap.size W b c t u->Dx W (aw3 m d n q r)->yu aa .any Mf Q (λW=>aj w9.heap.size w9 W) f (L b c) (jV m d n q r t u) W;let X0:Bool->Bool->Nat->Prop:=gN (λb c=>#[Z,Z,X,Z,X,Z,Z,X,X,X,X,X,X,b,c,X,X,X]) (λm d n q r=> []) (λm d n q r t u=>TM t u u22 u25 u27 u30 u31 u32 u33 u34);let X1:Bool->Bool->Nat->Prop:=gN (λb c=>#[Z,Z,Z,Z,X,Z,Z,X,X,X,X,X,X,b,c,X,X,X]) (λm d n q r=> [(m,2*a)]) (λm d n q r t u=>TM t u u22 (aD #[ax m.s,O m.A m.n m.c]) u27 u30 u31 u32 u33 u34);let X2:Bool->Bool->Nat->Prop:=gN (λb c=>#[Z,Z,Z,Z,Z,Z,Z,X,X,X,X,X,X,b,c,X,X,X]) (λm d n q r=> [(d,2*a+if a<0 then -b else b)]) (λm d n q r t u=>TM t u u22 (aD #[ax m.s,O m.A m.n m.c]) (aD #[ax d.s,O d.A d.n d.c]) u30 u31 u32 u33 u34);let X3:Bool->Bool->Nat->Prop:=gN (λb c=>#[Z,Z,Z,Z,Z,Z,Z,Z,X,X,X,X,X,b,c,X,X,X]) (λm d n q r=> [(n,2*b),(d,2*a+if a<0 then -b else b)]) (λm d n q r t u=>TM t u u22 (aD #[ax m.s,O m.A m.n m.c]) (aD #[ax d.s,O d.A d.n d.c]) (aD #[ax n.s,O n.A n.n n.c]) u31 u32 u33 u34);let X4:Bool->Bool->Nat->Prop:=gN (λb c=>#[Z,Z,Z,Z,Z,Z,Z,Z,Z,Z,Z,Z,Z,b,c,X,X,X]) (λm d n q r=> [(q,BV a b)]) (λm d n q r t u=>TM t u (bz #[aD #[ax q.s,O q.A q.n q.c],aD #[ax r.s,O r.A r.n r.c],C D 0]) (aD #[ax m.s,O m.A m.n m.c]) (aD #[ax d.s,O d.A d.n d.c]) (aD #[ax n.s,O n.A n.n n.c]) (bz #[aD #[ax q.s,O q.A q.n q.c],aD #[ax r.s,O r.A r.n r.c],C D 0]) (aD #[ax q.s,O q.A q.n q.c]) (aD #[ax r.s,O r.A r.n r.c]) (C D 0));have L1:X4 Z Z 3:=by dsimp only[gN,X4,TM];intro W t u m d n q r ht kP hi;dsimp only[Mf,OA];obtain⟨p7,rfl,aw4,Xm⟩:=kP.x rfl;obtain⟨p8,rfl,aw5,aw6⟩:=kP.y rfl;have aY:p7≠p8:=λe=>kP.n rfl rfl MZ;have hq:=hi _ (.head _);obtain⟨sq,Aq,nq,cq⟩:=q;obtain⟨sr,Ar,nr,cr⟩:=r;dsimp only at hq |-;have z0:W.cell? ⟨p7,0,J⟩=N (ax X):=Xm.cell 0;have z1:W.cell? ⟨p7,1,J⟩=N (O J 0 0):=Xm.cell 1;have zf:=Xm.frozen;refine bK 15 (λK hK=>?_);go_simp;have kt:=Cm (a:=ax sq) (b:=O Aq nq cq) ht aw4;refine hK.out _ _ kt (λ_=>?_);clear hK K;simp only[uB,pY,oh,oP,uC,uD,uE];have k7:=set2 (a':=ax sq) (b':=O Aq nq cq) Xm;have k8:=(aw6.far (p:=⟨p7,0,J⟩) (λe=>aY e.symm) (ax sq)).far (p:=⟨p7,1,J⟩) (λe=>aY e.symm) (O Aq nq cq);have iq:=hq.aaJ Xm (ax sq) (O Aq nq cq);have ks:((W.setCell ⟨p7,0,J⟩ (ax sq)).setCell ⟨p7,1,J⟩ (O Aq nq cq)).heap.size=W.heap.size:=aG;rw[<-ks] at iq;generalize(W.setCell ⟨p7,0,J⟩ (ax sq)).setCell ⟨p7,1,J⟩ (O Aq nq cq)=wy at kt k7 k8 iq |-;have y0:wy.cell? ⟨p8,0,J⟩=N (ax X):=k8.cell 0;have y1:wy.cell? ⟨p8,1,J⟩=N (O J 0 0):=k8.cell 1;have yf:=k8.frozen;refine bK 16 (λK hK=>?_);go_simp;have jt:=Cm (a:=ax sr) (b:=O Ar nr cr) kt aw5;refine hK.out _ _ jt (λ_=>?_);clear hK K;simp only[uB,pY,oh,oP,uC,uD,uE];refine aA 17 ?_ (hQ:=λ_ _ _ h=>hp _ _ _ _ _ h);refine gI ?_;have j7:=(k7.far (p:=⟨p8,0,J⟩) aY (ax sr)).far (p:=⟨p8,1,J⟩) aY (O Ar nr cr);have jq:=iq.aaJ k8 (ax sr) (O Ar nr cr);have js:((wy.setCell ⟨p8,0,J⟩ (ax sr)).setCell ⟨p8,1,J⟩ (O Ar nr cr)).heap.size=wy.heap.size:=aG;rw[<-js] at jq;exact HQ.E p7 p8 _ _ _ _ _ _ _ _ _ _ _ _ sq Aq nq cq sr Ar nr cr _ j7 jq jt
 dsimp only[gN,X4,TM] at L1;have L2:X4 Z X 4:=adS;have L3:X4 X Z 4:=adS;dsimp only[gN,X4,TM] at L2 L3;have L4:X4 X X 5:=adS;dsimp only[gN,X4,TM] at L4;have G1:=L1;have G2:=L2;have G3:=L3;have G4:=L4;clear L1 L2 L3 L4;have L1:X3 Z Z 8:=YK;dsimp only[gN,X3,TM] at L1;have L2:X3 Z X 9:=YK;have L3:X3 X Z 9:=YK;dsimp only[gN,X3,TM] at L2 L3;have L4:X3 X X 10:=YK;dsimp only[gN,X3,TM] at L4;have G1:=L1;have G2:=L2;have G3:=L3;have G4:=L4;clear L1 L2 L3 L4;have L1:X2 Z Z 9:=YL;dsimp only[gN,X2,TM] at L1;have L2:X2 Z X 10:=YL;have L3:X2 X Z 10:=YL;dsimp only[gN,X2,TM] at L2 L3;have L4:X2 X X 11:=YL;dsimp only[gN,X2,TM] at L4;have G1:=L1;have G2:=L2;have G3:=L3;have G4:=L4;clear L1 L2 L3 L4;have L1:X1 Z Z 10:=YM;dsimp only[gN,X1,TM] at L1;have L2:X1 Z X 11:=YM;have L3:X1 X Z 11:=YM;dsimp only[gN,X1,TM] at L2 L3;have L4:X1 X X 12:=YM;dsimp only[gN,X1,TM] at L4;have G1:=L1;have G2:=L2;have G3:=L3;have G4:=L4;clear L1 L2 L3 L4;have L1:X0 Z Z 11:=YN;dsimp only[gN,X0,TM] at L1;have L2:X0 Z X 12:=YN;have L3:X0 X Z 12:=YN;dsimp only[gN,X0,TM] at L2 L3;have L4:X0 X X 13:=YN;dsimp only[gN,X0,TM] at L4;have hS0:aj w9.heap.size w9 w9.drew:=below_drewN (aN _ _) 1;have LD:af (∀W,aj w9.heap.size w9 W->(W.cell? ⟨q6,0,J⟩=N (ax Mg)/\W.cell? ⟨q6,1,J⟩=N (O Mh Mi Mj))/\(W.cell? ⟨q3,0,J⟩=N (ax TL)/\W.cell? ⟨q3,1,J⟩=N (O TN TP TQ))/\(W.cell? ⟨q5,0,J⟩=N (ax TS)/\W.cell? ⟨q5,1,J⟩=N (O TT TU TV))/\W.cell? ⟨q4,0,J⟩=N (ax TW)/\W.cell? ⟨q4,1,J⟩=N (O TY TZ T9)):=λW h=>have g:=λ{q T cs} (k:ai w9 q T cs)=>k.below h k.lt;⟨⟨(g zJ.E).cell 0,(g zJ.E).cell 1⟩,⟨(g zm.E).cell 0,(g zm.E).cell 1⟩,⟨(g Ba.E).cell 0,(g Ba.E).cell 1⟩,(g IJ.E).cell 0,(g IJ.E).cell 1⟩;refine iA (S:=λW=>aj w9.heap.size w9 W) dh hS0 (λbg=>?_);dsimp only[Mf,OA];refine aA 0 ?_ (hQ:=λ_ _ _ h=>hp _ _ _ _ _ h) (hy:=Or.inl ⟨by rfl,λw_ Fq=>by obtain⟨⟨a0,a1⟩,⟨a2,a3⟩,⟨a4,a5⟩,a6,a7⟩:=LD.E _ Fq;go_simp;(try with_reducible rfl)⟩);refine aA 1 ?_ (hQ:=λ_ _ _ h=>hp _ _ _ _ _ h) (hy:=Or.inl ⟨by rfl,λw_ Fq=>by obtain⟨⟨a0,a1⟩,⟨a2,a3⟩,⟨a4,a5⟩,a6,a7⟩:=LD.E _ Fq;go_simp;(try with_reducible rfl)⟩);refine aA 3 ?_ (hQ:=λ_ _ _ h=>hp _ _ _ _ _ h) (hy:=Or.inl ⟨by rfl,λw_ Fq=>by obtain⟨⟨a0,a1⟩,⟨a2,a3⟩,⟨a4,a5⟩,a6,a7⟩:=LD.E _ Fq;go_simp;(try with_reducible rfl)⟩);refine aA 5 ?_ (hQ:=λ_ _ _ h=>hp _ _ _ _ _ h) (hy:=Or.inl ⟨by rfl,λw_ Fq=>by obtain⟨⟨a0,a1⟩,⟨a2,a3⟩,⟨a4,a5⟩,a6,a7⟩:=LD.E _ Fq;go_simp;(try with_reducible rfl)⟩);refine aA 6 ?_ (hQ:=λ_ _ _ h=>hp _ _ _ _ _ h) (hy:=Or.inl ⟨by rfl,λw_ Fq=>by obtain⟨⟨a0,a1⟩,⟨a2,a3⟩,⟨a4,a5⟩,a6,a7⟩:=LD.E _ Fq;go_simp;(try with_reducible rfl)⟩);have z:IV:=⟨X,J,0,0⟩;exact L4 _ _ _ z z z z z hS0 ⟨nofun,nofun,nofun⟩ Dx.nil
theorem aw7{cs:Array ak}(h:ai w q 46 cs)(hs:cs.size=2)(h0:tmps.getD 2 undef=aQ q):(results f218 tmps).run aa w= .ok (aD cs) w:=results_cell_row results218 tmps w q 46 cs (0,0) _ h0 h underlying46 rfl Fa
theorem ak8(h:R:=by intro p7 p8 s_1 A_1 n_1 c_1 s_2 A_2 n_2 c_2 s_3 A_3 n_3 c_3 sq Aq nq cq sr Ar nr cr wz xR hiq ak9;have jr:=O1.E.below ak9 I;have c0:wz.cell? ⟨p7,0,J⟩=N (ax sq):=xR.cell 0;have c1:wz.cell? ⟨p7,1,J⟩=N (O Aq nq cq):=xR.cell 1;have d0:wz.cell? ⟨w.heap.size+1,0,J⟩=N (ax X):=jr.cell 0;have d1:wz.cell? ⟨w.heap.size+1,1,J⟩=N (O J 0 0):=jr.cell 1;have df:=jr.frozen;(try dsimp only);go_wp2_with fail;have hk:=set2 (a':=ax sq) (b':=O Aq nq cq) jr;have eH:=Cm (a:=ax sq) (b:=O Aq nq cq) (g:=w.heap.size+1) (aU yN.E ak9) I;have ala:=hiq.aaJ jr (ax sq) (O Aq nq cq);rw[<-xW] at ala;exact eX (aw7 hk rfl rfl) rfl ⟨⟨_,_,rfl,ala.more aG⟩,eH⟩):R:=h
theorem aw8(nn nm dn dm:ak)(a b:Int)(B:Nat)(w:Y)(ha:bT w B nn nm a)(hb:bT w B dn dm b)(hB:B<=w.heap.size)(aT:0<b)(aB:b<=1000)(wY:a.natAbs<=1000000000000000000):
  aF aa 218 #[aD #[nn,nm,dn,dm]] w (Dr (BV a b) w):=by
 have HA:=G ha;have yT:=G hb;obtain⟨rfl,Aa,na,ca,rfl⟩:=ha.forms;obtain⟨rfl,Ab,nb,cb,rfl⟩:=hb.forms;have jU:af (∀W,aj B w W->B<=W.heap.size->aF aa 259 #[aD #[ax (decide (a<0)),O Aa na ca,ax (decide (b<0)),O Ab nb cb]] W λe w'=>e=aI (bz #[aD #[ax (decide (a<0)),O Aa na ca],aD #[ax (decide (b<0)),O Ab nb cb]])/\aj W.heap.size W w'):=λW h hs=>adR _ _ _ _ a b B W (HA.E.below h) (yT.E.below h) hs aT;have zN:af (∀W,aj B w W->aF aa 69 #[aD #[ax (decide (a<0)),O Aa na ca]] W λe w'=>e=aI (C D (iZ a))/\aj W.heap.size W w'):=λW h=>Xa _ _ a B W (HA.E.below h);have HNG:af (∀W,aj B w W->B<=W.heap.size->aF aa 133 #[aD #[ax (decide (b<0)),O Ab nb cb]] W (Dr (-b) W)):=λW h hs=>awk _ _ b B W (yT.E.below h) hs;have iW:=G (λW=>Xb 2 I I W);have HAI:af (∀W,aj B w W->B<=W.heap.size->bT W W.heap.size (ax (decide (a<0))) (O Aa na ca) a):=λW h hs=>(HA.E.below h).more hs;have Ng:af (∀W,aj B w W->B<=W.heap.size->bT W W.heap.size (ax (decide (b<0))) (O Ab nb cb) b):=λW h hs=>(yT.E.below h).more hs;obtain⟨w2,gM⟩:∃w2:Y,w2=(w.alloc (ag #[ax (decide (a<0)),O Aa na ca,ax (decide (b<0)),O Ab nb cb] 48)).alloc (ag #[ax X,O J 0 0] 46):=⟨_,rfl⟩;have aS:af (aj w.heap.size w w2):=by exact akU
 have fw:w2.heap.size=w.heap.size+2:=Rp;have K0:af (ai w2 w.heap.size 48 #[ax (decide (a<0)),O Aa na ca,ax (decide (b<0)),O Ab nb cb]):=by show ai _ _ _ _;rw[gM];exact(ai.new w _ _).alloc _
 have K1:af (ai w2 (w.heap.size+1) 46 #[ax X,O J 0 0]):=by show ai _ _ _ _;rw[gM];have:=(ai.new (w.alloc (ag #[ax (decide (a<0)),O Aa na ca,ax (decide (b<0)),O Ab nb cb] 48)) 46 #[ax X,O J 0 0]);rw[aW] at this;exact this
 have Qu:af ((a<0/\iZ a= -1)\/(¬a<0/\0<=iZ a)):=by
  by_cases hn:a<0;·exact .inl ⟨hn,by unfold iZ;rw[if_neg I,if_pos hn]⟩
  refine .inr ⟨hn,?_⟩;unfold iZ;split;·omega
  omega
 generalize Kk:decide (a<0)=sa at*;generalize decide (b<0)=sb at*;obtain⟨rr,xW⟩:∃r,r=BV a b:=⟨_,rfl⟩;rw[<-xW];clear ha hb HA yT Kk;go_enter func218,ntmps218;go_upto_region 1 with fail;rw[<-gM];clear gM;have x0:w2.cell? ⟨w.heap.size,0,J⟩=N (ax sa):=K0.E.cell 0;have x1:w2.cell? ⟨w.heap.size,1,J⟩=N (O Aa na ca):=K0.E.cell 1;have x2:w2.cell? ⟨w.heap.size,2,J⟩=N (ax sb):=K0.E.cell 2;have x3:w2.cell? ⟨w.heap.size,3,J⟩=N (O Ab nb cb):=K0.E.cell 3;go_wp2_with fail;refine(jU.E w2 (aS.E.mono hB) I).mono ?_;rintro e' w3 ⟨rfl,aR⟩;have fM:=aR.size;obtain⟨w5,ym⟩:∃w5:Y,w5=((w3.alloc (ag #[ax sa,O Aa na ca] 46)).alloc (ag #[ax sb,O Ab nb cb] 46)).alloc (ag #[ax sb,O Ab nb cb] 46):=⟨_,rfl⟩;have BJ:w5.heap.size=w3.heap.size+3:=aby;have xV:aj w3.heap.size w3 w5:=by rw[ym];exact(((aN _ _).alloc (aC _) _).alloc bB _).alloc bB _
 have adU:aj w2.heap.size w2 w5:=aU aR xV;have L1:=G (K1.E.below adU I);have L3:af (ai w5 w3.heap.size 46 #[ax sa,O Aa na ca]):=by show ai _ _ _ _;rw[ym];exact((ai.new w3 _ _).alloc _).alloc _
 have L4:af (ai w5 (w3.heap.size+1) 46 #[ax sb,O Ab nb cb]):=by show ai _ _ _ _;rw[ym];have:=(ai.new (w3.alloc (ag #[ax sa,O Aa na ca] 46)) 46 #[ax sb,O Ab nb cb]);rw[aW] at this;exact this.alloc _
 have L5:af (ai w5 (w3.heap.size+2) 46 #[ax sb,O Ab nb cb]):=by show ai _ _ _ _;rw[ym];have:=(ai.new ((w3.alloc (ag #[ax sa,O Aa na ca] 46)).alloc (ag #[ax sb,O Ab nb cb] 46)) 46 #[ax sb,O Ab nb cb]);rw[aW,aW] at this;exact this
 have fT:=G (aU aS.E adU);clear aR xV adU K0 K1 x0 x1 x2 x3 jU;go_upto_region 3 with fail;rw[<-ym];clear ym;have x0:w5.cell? ⟨w3.heap.size,0,J⟩=N (ax sa):=L3.E.cell 0;have x1:w5.cell? ⟨w3.heap.size,1,J⟩=N (O Aa na ca):=L3.E.cell 1;go_wp2_with fail;refine(zN.E w5 (fT.E.mono hB)).mono ?_;rintro e' w6 ⟨rfl,dJ⟩;have Eg:=dJ.size;have M1:=G (L1.E.below dJ I);have M3:=G (L3.E.below dJ I);have M4:=G (L4.E.below dJ I);have M5:=G (L5.E.below dJ I);have eY:=G (aU fT.E dJ);clear dJ L1 L3 L4 L5 x0 x1 zN;rcases Qu.E with⟨hneg,EH⟩|⟨hneg,EH⟩
 ·have k0:decide (iZ a<0)=Z:=by rw[decide_eq_true_eq];omega
  have y0:w6.cell? ⟨w3.heap.size+1,0,J⟩=N (ax sb):=M4.E.cell 0;have y1:w6.cell? ⟨w3.heap.size+1,1,J⟩=N (O Ab nb cb):=M4.E.cell 1;have R5':=M5.E;generalize iZ a=sga at*;clear EH Qu;go_wp2_with fail;refine(HNG.E w6 (eY.E.mono hB) I).mono ?_;rintro e' QD ⟨⟨nvh,mvh,rfl,hih⟩,QE⟩;have ZP:=G hih;obtain⟨rfl,Ah,nh,ch,rfl⟩:=hih.forms;generalize decide (-b<0)=sh at*;(try dsimp only[uU]);have aDj:=QE.size;have R1:=M1.E.below QE I;have R3:=M3.E.below QE I;have R4:=M4.E.below QE I;have R5:=M5.E.below QE I;have z0:QD.cell? ⟨w3.heap.size+2,0,J⟩=N (ax sb):=R5.cell 0;have z1:QD.cell? ⟨w3.heap.size+2,1,J⟩=N (O Ab nb cb):=R5.cell 1;have zf:=R5.frozen;have FP:=aU eY.E QE;have N1:=G ((R1.far (p:=⟨w3.heap.size+2,0,J⟩) dY (ax sh)).far (p:=⟨w3.heap.size+2,1,J⟩) dY (O Ah nh ch));have N3:=G ((R3.far (p:=⟨w3.heap.size+2,0,J⟩) dY (ax sh)).far (p:=⟨w3.heap.size+2,1,J⟩) dY (O Ah nh ch));have N4:=G ((R4.far (p:=⟨w3.heap.size+2,0,J⟩) dY (ax sh)).far (p:=⟨w3.heap.size+2,1,J⟩) dY (O Ah nh ch));have N5:=G (set2 (a':=ax sh) (b':=O Ah nh ch) R5);have Xn:af (bT ((QD.setCell ⟨w3.heap.size+2,0,J⟩ (ax sh)).setCell ⟨w3.heap.size+2,1,J⟩ (O Ah nh ch)) ((QD.setCell ⟨w3.heap.size+2,0,J⟩ (ax sh)).setCell ⟨w3.heap.size+2,1,J⟩ (O Ah nh ch)).heap.size (ax sh) (O Ah nh ch) (if a<0 then -b else b)):=by show bT _ _ _ _ _;rw[if_pos hneg];exact(ZP.E.aaJ R5 (ax sh) (O Ah nh ch)).more aG
  have jk:=G (Cm (a:=ax sh) (b:=O Ah nh ch) FP (show w.heap.size<=w3.heap.size+2 by omega));have Dl:((QD.setCell ⟨w3.heap.size+2,0,J⟩ (ax sh)).setCell ⟨w3.heap.size+2,1,J⟩ (O Ah nh ch)).heap.size=QD.heap.size:=aG;clear hih QE R1 R3 R4 FP M1 M3 M4 M5 y0 y1 HNG ZP R5';go_upto_region 5 with fail;clear z0 z1 zf R5;generalize(QD.setCell ⟨w3.heap.size+2,0,J⟩ (ax sh)).setCell ⟨w3.heap.size+2,1,J⟩ (O Ah nh ch)=w7 at*;go_wp2_with fail;refine(iW.E w7).mono ?_;rintro e' w8 ⟨⟨n2v,m2v,rfl,Ct⟩,yQ⟩;have sV:=G Ct;obtain⟨rfl,A2,n2,c2,rfl⟩:=Ct.forms;generalize decide ((2:Int)<0)=s2 at*;(try dsimp only[uU]);have Qk:=yQ.size;obtain⟨w9,CE⟩:∃w9:Y,w9=w8.alloc (ag #[ax s2,O A2 n2 c2] 46):=⟨_,rfl⟩;have Lj:w9.heap.size=w8.heap.size+1:=abx;have I4:aj w8.heap.size w8 w9:=afb;have vT:aj w7.heap.size w7 w9:=aU yQ I4;have O1:=G (N1.E.below vT I);have O3:=G (N3.E.below vT I);have O4:=G (N4.E.below vT I);have O5:=G (N5.E.below vT I);have O6:af (ai w9 w8.heap.size 46 #[ax s2,O A2 n2 c2]):=by show ai _ _ _ _;rw[CE];exact ai.new w8 _ _
  have yN:=G (aU jk.E vT);have I2:af (bT w9 w9.heap.size (ax s2) (O A2 n2 c2) 2):=(sV.E.below I4).more I;have IH:af (bT w9 w9.heap.size (ax sh) (O Ah nh ch) (if a<0 then -b else b)):=(Xn.E.below vT).more I;have IA:=G (HAI.E w9 (yN.E.mono hB) I);have IB:=G (Ng.E w9 (yN.E.mono hB) I);clear Ct yQ I4 vT N1 N3 N4 N5 iW sV Xn HAI Ng;go_upto_region 6 with fail;rw[<-CE];clear CE;refine ak4 a b aT aB wY w9 w3.heap.size (w3.heap.size+1) (w3.heap.size+2) w8.heap.size s2 A2 n2 c2 sa Aa na ca sh Ah nh ch sb Ab nb cb I2.E IA.E IH.E IB.E O6.E O3.E O5.E O4.E _ _ _ _ _ _ _ _ _ _ _ _ _ _ _ _ _ _ _ _ _ _ _ _ _ _ _ _ _ _ _ _ _ (λc a d v w h=>by cases d<;>exact h) ?_;exact ak8
 have k0:decide (iZ a<0)=X:=by rw[decide_eq_false_iff_not];omega
 generalize iZ a=sga at*;clear EH Qu HNG;obtain⟨w7,sj⟩:∃W:Y,W=w6:=⟨_,rfl⟩;have Xn:af (bT w7 w7.heap.size (ax sb) (O Ab nb cb) (if a<0 then -b else b)):=by show bT _ _ _ _ _;rw[if_neg (show ¬a<0 by omega),sj];exact Ng.E w6 (eY.E.mono hB) I
 have N1:af (ai w7 (w.heap.size+1) 46 #[ax X,O J 0 0]):=by rw[sj];exact M1
 have N3:af (ai w7 w3.heap.size 46 #[ax sa,O Aa na ca]):=by rw[sj];exact M3
 have N4:af (ai w7 (w3.heap.size+1) 46 #[ax sb,O Ab nb cb]):=by rw[sj];exact M4
 have N5:af (ai w7 (w3.heap.size+2) 46 #[ax sb,O Ab nb cb]):=by rw[sj];exact M5
 have jk:af (aj w.heap.size w w7):=by rw[sj];exact eY
 have Dl:w7.heap.size=w6.heap.size:=by rw[sj]
 go_wp2_with fail;rw[<-sj];clear sj M1 M3 M4 M5;refine(iW.E w7).mono ?_;rintro e' w8 ⟨⟨n2v,m2v,rfl,Ct⟩,yQ⟩;have sV:=G Ct;obtain⟨rfl,A2,n2,c2,rfl⟩:=Ct.forms;generalize decide ((2:Int)<0)=s2 at*;(try dsimp only[uU]);have Qk:=yQ.size;obtain⟨w9,CE⟩:∃w9:Y,w9=w8.alloc (ag #[ax s2,O A2 n2 c2] 46):=⟨_,rfl⟩;have Lj:w9.heap.size=w8.heap.size+1:=abx;have I4:aj w8.heap.size w8 w9:=afb;have vT:aj w7.heap.size w7 w9:=aU yQ I4;have O1:=G (N1.E.below vT I);have O3:=G (N3.E.below vT I);have O4:=G (N4.E.below vT I);have O5:=G (N5.E.below vT I);have O6:af (ai w9 w8.heap.size 46 #[ax s2,O A2 n2 c2]):=by show ai _ _ _ _;rw[CE];exact ai.new w8 _ _
 have yN:=G (aU jk.E vT);have I2:af (bT w9 w9.heap.size (ax s2) (O A2 n2 c2) 2):=(sV.E.below I4).more I;have IH:af (bT w9 w9.heap.size (ax sb) (O Ab nb cb) (if a<0 then -b else b)):=(Xn.E.below vT).more I;have IA:=G (HAI.E w9 (yN.E.mono hB) I);have IB:=G (Ng.E w9 (yN.E.mono hB) I);clear Ct yQ I4 vT N1 N3 N4 N5 iW sV Xn HAI Ng;go_upto_region 6 with fail;rw[<-CE];clear CE;refine ak4 a b aT aB wY w9 w3.heap.size (w3.heap.size+1) (w3.heap.size+2) w8.heap.size s2 A2 n2 c2 sa Aa na ca sb Ab nb cb sb Ab nb cb I2.E IA.E IH.E IB.E O6.E O3.E O5.E O4.E _ _ _ _ _ _ _ _ _ _ _ _ _ _ _ _ _ _ _ _ _ _ _ _ _ _ _ _ _ _ _ _ _ (λc a d v w h=>by cases d<;>exact h) ?_;exact ak8
theorem aw9{n:Int}(h:bX n=Z): -1000000000000<=n/\n<=1000000000000:=by unfold bX at h;simpa using h
theorem alb(n:Int):kJ n 1=(n,1):=by unfold kJ;simp
theorem axa{a b:Int}(aT:0<b):0<(kJ a b).2/\(kJ a b).2<=b/\(kJ a b).1.natAbs<=a.natAbs:=by
 unfold kJ;have hg0:0<Nat.gcd a.natAbs b.natAbs:=Nat.gcd_pos_of_pos_right _ I;have hgb:=Nat.gcd_le_right a.natAbs (show 0<b.natAbs by omega);obtain⟨k,hk⟩:=Nat.gcd_dvd_right a.natAbs b.natAbs;generalize Nat.gcd a.natAbs b.natAbs=g at*;have hb:b=(g:Int)*(k:Int):=by
  have:(b.natAbs:Int)=((g*k:Nat):Int):=by rw[<-hk]
  rw[Int.natCast_mul] at this;omega
 have rE:0<k:=by
  rcases sw k with h|h;·rw[h] at hk;omega
  exact h
 have e:rR b (g:Int)=k:=by rw[hb,Int.mul_tdiv_cancel_left _ I]
 refine⟨by simp only[e];omega,?_,?_⟩;·simp only[e];have:1*k<=g*k:=Nat.mul_le_mul_right k hg0;omega
 show(rR a (g:Int)).natAbs<=_;rw[Int.natAbs_tdiv];exact Nat.div_le_self _ _
theorem axb{a b:Int}(aT:0<b)(aB:b<=1000)(ha:a.natAbs<=1000000000000000): -9223372036854775808<BV a b/\BV a b<9223372036854775807:=by
 unfold BV;have h1:(rR (2*a+if a<0 then -b else b) (2*b)).natAbs<=(2*a+if a<0 then -b else b).natAbs:=by rw[Int.natAbs_tdiv];exact Nat.div_le_self _ _
 have h2:(2*a+if a<0 then -b else b).natAbs<=2000000000001000:=by split<;>omega
 omega
def alc(a b n:Int)(w:Y)(e:Ending)(w':Y):Prop:=∃c:Int,e=aI (bz #[C D ((J4 a b n).getD 0),c])/\(c=0↔(J4 a b n).isSome=Z)/\aj w w w'
theorem axc(nn nm dn dm:ak)(a b n:Int)(B:Nat)(w:Y)(ha:bT w B nn nm a)(hb:bT w B dn dm b)(hB:B<=w.heap.size)(aT:0<b)(aB:b<=1000)(wY:a.natAbs<=1000):
  aF aa 164 #[n,aD #[nn,nm,dn,dm]] w (alc a b n w):=by
 obtain⟨w1,kg⟩:∃w1:Y,w1=w.alloc (ag #[nn,nm,dn,dm] 48):=⟨_,rfl⟩;have aM:af (aj w w w1):=by show aj _ _ _;rw[kg];exact(aN _ _).alloc (aC _) _
 have ed:w1.heap.size=w.heap.size+1:=YC;have K0:af (ai w1 w 48 #[nn,nm,dn,dm]):=by show ai _ _ _ _;rw[kg];exact ai.new w _ _
 have I6:=G (akW n);cases hn:bX n;case false=>
  rw[hn] at I6;have F:af (J4 a b n=J):=by show _=_;unfold J4;rw[if_pos hn]
  obtain⟨rfl,Aa,na,ca,rfl⟩:=ha.forms;obtain⟨rfl,Ab,nb,cb,rfl⟩:=hb.forms;go_enter func164,ntmps164;go_wp2_with fail;rw[<-kg];clear kg;refine(I6 _).mono ?_;rintro e' w2 ⟨rfl,gM⟩;subst gM;go_wp2_with fail;go_ret2;exact⟨1,ic,by rw[F.E];simp,aM⟩
 have Gb:=aw9 hn;rw[hn] at I6;have AL:(n*a).natAbs<=1000000000000000:=by rw[Int.natAbs_mul];have h1:n.natAbs<=1000000000000:=I;exact ja (Nat.mul_le_mul h1 wY) I
 have jG:(1000000000000000:Nat)<BB ^ 100:=yA (show(1000000000000000:Nat)<BB ^ 3 by unfold BB;omega) (Nat.pow_le_pow_right Dq I);obtain⟨r1,r2,r3⟩:=axa (a:=n*a) (b:=1*b) I;obtain⟨x,hx⟩:∃x,x=kJ (n*a) (1*b):=⟨_,rfl⟩;rw[<-hx] at r1 r2 r3;have hrb:=axb (a:=x.1) (b:=x.2) r1 I I;have F:af (J4 a b n=if bX (BV x.1 x.2)=X then J else N (BV x.1 x.2)):=by show _=_;unfold J4;rw[if_neg (by rw[hn];simp),alb];show(if bX (BV (kJ (n*a) (1*b)).1 (kJ (n*a) (1*b)).2)=X then J else _)=_;rw[<-hx]
 have HO:=G (λW=>akY n 1 W I I I I);rw[alb] at HO;have HM:af (∀W n1 n2 n3 n4,aj B w W->B<=W.heap.size->bT W W n1 n2 n->bT W W n3 n4 1->aF aa 219 #[aD #[n1,n2,n3,n4],aD #[nn,nm,dn,dm]] W (Xj x.1 x.2 W)):=by intro W n1 n2 n3 n4 h hs h1 h2;rw[hx];exact awX n1 n2 n3 n4 nn nm dn dm n 1 a b W W h1 h2 ((ha.below h).more hs) ((hb.below h).more hs) (aC _) I I aT aB I I
 have Er:af (∀W n1 n2 n3 n4,bT W W n1 n2 x.1->bT W W n3 n4 x.2->aF aa 218 #[aD #[n1,n2,n3,n4]] W (Dr (BV x.1 x.2) W)):=λW n1 n2 n3 n4 h1 h2=>aw8 n1 n2 n3 n4 x.1 x.2 W W h1 h2 (aC _) r1 I I;generalize x.1=xa at*;generalize x.2=xb at*;generalize BV xa xb=ro at*;have Lr:af (∀W n1 n2,bT W W n1 n2 ro->aF aa 217 #[aD #[n1,n2]] W λe w'=>e=aI (bz #[ro,Z])/\aj W W w'):=λW n1 n2 h=>awR n1 n2 ro W W h (aC _) hrb.1 hrb.2;obtain⟨rfl,Aa,na,ca,rfl⟩:=ha.forms;obtain⟨rfl,Ab,nb,cb,rfl⟩:=hb.forms;generalize decide (a<0)=sa at*;generalize decide (b<0)=sb at*;clear ha hb AL jG r1 r2 r3 hx hrb;go_enter func164,ntmps164;go_wp2_with fail;rw[<-kg];clear kg;refine(I6 _).mono ?_;rintro e' w2 ⟨rfl,gM⟩;subst gM;go_wp2_with fail;refine(HO _).mono ?_;rintro e' w3 ⟨n1,n2,n3,n4,rfl,hi3,Ua,aR⟩;have Cs:=G hi3;have Mk:=G Ua;obtain⟨rfl,A1,m1,c1,rfl⟩:=hi3.forms;obtain⟨rfl,A2,m2,c2,rfl⟩:=Ua.forms;generalize decide (n<0)=s1 at*;generalize decide ((1:Int)<0)=s2 at*;have fM:=aR.size;obtain⟨w4,uw⟩:∃w4:Y,w4=w3.alloc (ag #[s1,O A1 m1 c1,s2,O A2 m2 c2] 48):=⟨_,rfl⟩;have rH:w4.heap.size=w3.heap.size+1:=YB;have I1:aj w3 w3 w4:=afc;have adV:aj w1 w1 w4:=aU aR I1;have L0:=G (K0.below adV I);have L1:af (ai w4 w3 48 #[s1,O A1 m1 c1,s2,O A2 m2 c2]):=by show ai _ _ _ _;rw[uw];exact ai.new w3 _ _
 have Dw:=G ((Cs.below I1).more I1.size);have Ml:=G ((Mk.below I1).more I1.size);have dE:=G (aU aM adV);clear hi3 Ua aR I1 adV K0 HO Cs Mk;go_upto_region 4 with fail;rw[<-uw];clear uw;have x0:w4.cell? ⟨w,0,J⟩=N (ax sa):=L0.cell 0;have x1:w4.cell? ⟨w,1,J⟩=N (O Aa na ca):=L0.cell 1;have x2:w4.cell? ⟨w,2,J⟩=N (ax sb):=L0.cell 2;have x3:w4.cell? ⟨w,3,J⟩=N (O Ab nb cb):=L0.cell 3;have y0:w4.cell? ⟨w3,0,J⟩=N (ax s1):=L1.cell 0;have y1:w4.cell? ⟨w3,1,J⟩=N (O A1 m1 c1):=L1.cell 1;have y2:w4.cell? ⟨w3,2,J⟩=N (ax s2):=L1.cell 2;have y3:w4.cell? ⟨w3,3,J⟩=N (O A2 m2 c2):=L1.cell 3;go_wp2_with fail;refine(HM w4 _ _ _ _ (dE.mono hB) I Dw Ml).mono ?_;rintro e' w5 ⟨n1,n2,n3,n4,rfl,vS,Kh,cO⟩;have Bd:=G vS;have Ki:=G Kh;have fT:=G (aU dE cO);clear vS Kh cO x0 x1 x2 x3 y0 y1 y2 y3 HM Dw Ml L0 L1;go_wp2_with fail;refine(Er w5 _ _ _ _ Bd Ki).mono ?_;rintro e' w6 ⟨⟨n5,n6,rfl,Xh⟩,dJ⟩;have Xi:=G Xh;have eY:=G (aU fT dJ);clear Xh dJ Er Bd Ki;(try dsimp only[uU]);go_wp2_with fail;refine(Lr w6 _ _ Xi).mono ?_;rintro e' w7 ⟨rfl,fF⟩;have jk:=G (aU eY fF);have wL:=G (akW ro);clear fF Lr Xi I6;cases hr:bX ro;·rw[hr] at wL F;go_wp2_with fail;refine(wL _).mono ?_;rintro e' w8 ⟨rfl,rfl⟩;go_wp2_with fail;go_ret2;exact⟨2,ic,by rw[F.E];simp,jk⟩
 rw[hr] at wL F;go_wp2_with fail;refine(wL _).mono ?_;rintro e' w8 ⟨rfl,rfl⟩;go_wp2_with fail;go_ret2;exact⟨0,ic,by rw[F.E];simp,jk⟩
end Go.Proofs.YtgnflmdpalmejaaGreatDoor
