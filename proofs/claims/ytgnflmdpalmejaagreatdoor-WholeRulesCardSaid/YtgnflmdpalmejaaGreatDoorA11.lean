/- Lemmas for the proof of WholeRules (the card is in the file ..WholeRulesCard); each lemma names its own conditions. -/
import Derived.Test.YtgnflmdpalmejaaGreatDoorA07
import Derived.Test.YtgnflmdpalmejaaGreatDoorA08
import Derived.Test.YtgnflmdpalmejaaGreatDoorShelf2
namespace Go.Proofs.YtgnflmdpalmejaaGreatDoor
open And renaming intro->bI
open Bool renaming and_eq_true->bq,false->X,true->Z
open Go.Act renaming put->uB
open Go renaming Addr->aK,Calls->aF,TypeId->bM,Value->ak,World->Y,bodyPost_ret->eX,ownsRow_setCell_other->mO,wp_region_held_drew->iA
open Go.Ending renaming returned->aI
open Go.Fence renaming wide->QL
open Go.IntKind renaming i64->D
open Go.Obj renaming cells->ag
open Go.Region renaming ready->RJ,wanted->sZ
open Go.RowKit renaming Below->aj
open Go.RowKit.Below renaming heap_setCell->jm,refl->aN
open Go.Value renaming agg->aD,bool->ax,int->C,pointer->aQ,slice->O,string->au,tuple->bz
open Go.World renaming cell?_alloc_lt->Rn,ownsRow_nil->ng,setCell->Bp,size_alloc->aW,size_drew->G7,size_setCell->wh
open Inhabited renaming default->ay
open List renaming all_cons->zh,cons_append->o6,contains_iff_mem->Vq,drop_eq_getElem_cons->DY,drop_of_length_le->Qy,flatten_cons->Sr,foldl_cons->M8,getD->dO,getD_cons_zero->Ih,getD_eq_getElem?_getD->Et,getElem?_cons_succ->iX,getElem?_cons_zero->iI,getElem?_eq_getElem->wu,getElem?_eq_none->Ot,getElem?_toArray->iH,getElem_cons_succ->uE,getElem_cons_zero->uD,getElem_mem->rF,getElem_toArray->uC,length_append->eB,length_cons->iP,length_drop->MM,length_map->oz,length_nil->pV,length_singleton->mf,length_take->xq,map_append->oM,map_cons->kE,mem_cons->jZ,mem_map->qw,nil_append->wF,not_mem_nil->nJ,setIfInBounds_toArray->pY,set_cons_succ->oP,set_cons_zero->oh,size_toArray->AX,take_of_length_le->o7,take_succ_eq_append_getElem->sD
open Nat renaming add_zero->mZ,eq_zero_or_pos->sw,le_refl->aC,le_trans->ja,lt_of_lt_of_le->yA,lt_or_ge->jl,min_eq_left->Nc,mul_one->Oo,zero_le->FI
open Option renaming bind_some->bZ,none->J,some->N
open Go.Proofs.Tryz renaming prog->aa
open Go.RowKit Go.Lib Go.Proofs.Tryz
set_option maxRecDepth 100000
set_option maxHeartbeats 32000000
set_option linter.unusedVariables false
set_option linter.unusedSimpArgs false
variable{A:Option aK}{B b base c g i k mb n pb st:Nat}{d u v:ak}{e:bM}{is:List Ins}{ks:List Int}{other sum:Int}{pr:Bool}{tmps:Array ak}{w w':Y}{xs:List ak}
theorem alr(pair:Bool):∀(is:List Ins) (d st:Nat),je pair is d st=Z->∀x∈is,1<=x.op/\x.op<=26
 | [],_,_,_,x,h=>absurd h nJ
 |y::r,d,st,hc,x,h=>by
  unfold je at hc;rw[bq] at hc;rcases jZ.1 h with e|m;·rw[e];have:=hc.1;simp only[bq,decide_eq_true_eq] at this;exact this.1.1.1.1
  ·exact alr pair r _ _ hc.2 x m
theorem axr{pair:Bool}(h:oC pair is=Z)(hi:i<is.length):1<=(is.getD i ay).op/\(is.getD i ay).op<=26:=by unfold oC at h;rw[bq] at h;refine alr pair is 0 0 h.2 _ ?_;rw[Et,wu hi];exact rF hi
theorem aaL{size:Nat}(h:w.ownsRow base e size (O g n c) n xs)(hk:k<=n):w.ownsRow base e size (O g k c) k (xs.take (k*size)):=by
 obtain⟨hl,h⟩:=h;have hks:k*size<=n*size:=Nat.mul_le_mul_right _ hk;refine⟨by rw[xq,hl];omega,?_⟩;rcases h with⟨hv,_⟩|⟨g',cap,cur,hv,h1,h2,h3,h4,h5,h6⟩;·cases hv
 injection hv with e1 _ e3;injection e1 with e1;injection e1 with e1;subst e1;subst e3;exact .inr ⟨g,c,cur,rfl,h1,h2,I,h4,h5,by rw[<-h6,List.take_take,Nc hks]⟩
theorem Xt{size:Nat}(h:w.ownsRow base e size (O A n c) n xs):n<=c:=by
 rcases h.2 with⟨hv,h0⟩|⟨g,cap,cur,hv,_,_,DT,_⟩;·injection hv with _ _ e;omega
 injection hv with _ _ e;omega
theorem als(l:List Ins):(kR l).length=l.length*3:=by
 induction l with
 |nil=>rfl
 |cons x r ih=>simp only[kR,kE,Sr,eB,iP] at *;rw[ih,Tt];omega
theorem axs(l:List Ins)(k:Nat):(kR l).take (k*3)=kR (l.take k):=by
 induction l generalizing k with
 |nil=>simp[kR]
 |cons x r ih=>
  cases k with
  |zero=>simp[kR]
  |succ k=>
   have e:kR (x::r)=LZ x++kR r:=by simp[kR]
   have e2:kR ((x::r).take (k+1))=LZ x++kR (r.take k):=by simp[kR]
   rw[e,e2,List.take_append,Tt,<-ih k];have e3:(LZ x).take ((k+1)*3)=LZ x:=o7 (by rw[Tt];omega);rw[e3];congr 2;omega
theorem adY(l:List Ins)(k j:Nat)(hk:k<l.length)(hj:j<3):(kR l)[k*3+j]?=(LZ (l.getD k ay))[j]?:=by
 induction l generalizing k with
 |nil=>simp at hk
 |cons x r ih=>
  have e:kR (x::r)=LZ x++kR r:=by simp[kR]
  rw[e];cases k with
  |zero=>rw[List.getElem?_append_left (by rw[Tt];omega)];simp
  |succ k=>rw[List.getElem?_append_right (by rw[Tt];omega),Tt,show(k+1)*3+j-3=k*3+j from by omega,ih k MR];simp
theorem um.own{l:List Ins}(h:w.ownsRow base 142 3 (O g n c) n (kR l)):um w g 0 l:=by
 intro k hk;have hc:=h.cells (g:=g) rfl;have ha:∀j,(⟨g,0,J⟩:aK).add j=⟨g,j,J⟩:=by intro j;unfold Addr.add;split<;>simp_all
 have h0:=hc (k*3+0) _ (by rw[adY l k 0 hk I];rfl);have h1:=hc (k*3+1) _ (by rw[adY l k 1 hk I];rfl);have h2:=hc (k*3+2) _ (by rw[adY l k 2 hk I];rfl);rw[ha] at h0 h1 h2;simp only[Nat.zero_add,mZ] at*;exact⟨h0,h1,h2⟩
theorem um.drop{l:List Ins}(h:um w g 0 l)(hk:k<=l.length):um w g (k*3) (l.drop k):=by
 intro j hj;rw[MM] at hj;have:=h (k+j) I;have e:(l.drop k).getD j ay=l.getD (k+j) ay:=by rw[Et,Et,List.getElem?_drop]
 rw[e,show k*3+j*3=0+(k+j)*3 from by omega];exact this
theorem axt(n:Nat)(hn:n<=1000000000)(W:Y):∃cs:Array ak,cs.size=n*3/\(Instr.makeSlice 62 (C D 0) (C D (n:Int))).run aa W= .ok (O W 0 n) (W.alloc (ag cs 142)):=by obtain⟨i0,gz,fu,gq,fG⟩:=info_parts adv;have hr:=run_make (P:=aa) W 62 142 i0 _ underlying62 gz fu .i64 .i64 0 n I I (by rw[fG];omega) I;simp only[Int.toNat_natCast,Int.toNat_zero,gq] at hr;exact⟨_,size_madeCells _ _,hr⟩
def axu(nm:ByteArray)(pair:Bool)(is:List Ins)(w:Y)(e:Ending)(w':Y):Prop:=
 ∃v,e=aI (bz #[wZ nm pair v,C D 0])/\w'.ownsRow w 142 3 v (wM is).length (kR (wM is))/\aj w w w'
theorem axv(hi:i<is.length)(out:List Ins)(h:out=(is.take i).foldl lG []):(is.take (i+1)).foldl lG []=lG out (is.getD i ay):=by have e:is.getD i ay=is[i]:=U2;rw[sD hi,List.foldl_append,<-h,e];rfl
theorem axw(out:List Ins)(x:Ins):(lG out x).length<=out.length+1:=by
 rcases ZU out x with h|h;·rw[h,eB];exact aC _
 rcases h with⟨pre,y,v,h1,_,_,_,_,h2⟩|⟨pre,y,z,v,h1,_,_,_,_,_,h2⟩;·rw[h2,h1];simp
 rw[h2,h1];simp
theorem adZ{R:Prop}(h:R:=by go_wp2_with(at_builtin;refine pX _ rfl (.tmp 31) (.tmp 33) _ rfl w5.heap.size 142 i0 _ 3 24 underlying62 gz fu gq fG rfl I _ out.length (kR out) rfl ((HO.alloc _).alloc _) (wo.heap.size+2) (N ⟨wo.heap.size+1,0,J⟩) 1 1 [C D (k:Int),C D a,C D b] rfl jg rZ lH I bB ?_;intro v6 wn dw bU iT;obtain⟨g6,c6,rfl,axx,ad1⟩:=dw.form I;have hc6:=Xt dw;have oI:=HX.grown bU (by intro e;have:=Z9 _ e.symm;omega);have QI:=((QG.alloc _).alloc _).grown bU (by intro e;have:=ZC _ e.symm;omega);have c0:wn.cell? ⟨wo,0,J⟩=N (C D (k:Int)):=oI.cell 0;have c1:wn.cell? ⟨wo,1,J⟩=N (C D a):=oI.cell 1;have d1:=(QI.cell (k*4+1)).trans r1;have d2:=(QI.cell (k*4+2)).trans r2;have Eh:=G oI;have QJ:=G (bA.trans (((aN _ _).alloc eP (ag #[(k:Int),a,b] 142)).trans (((aN _ _).alloc bB (ag #[(k:Int),a,b] 142)).trans (tu ((HO.alloc _).alloc _) bU bB))));have ad2:=bU.size;simp only[aW] at ad2;have oL:=G dw;clear dw bU iT oI QI);refine⟨⟨i+1,out++ [(⟨(k:Int),a,b⟩:Ins)],bR,I,by rw[U6.E,FS.E],G5,?_,QJ⟩,bW⟩;rw[eB,mf,Qp];exact oL):R:=h
theorem axy(nm:ByteArray)(pair:Bool)(g off n c:Nat)(is:List Ins)(w:Y)(hA:um w g off is)(hn:is.length=n)(h0:0<n)(jG:n<=100000000)(aX:oC pair is=Z):
  aF aa 11 #[wZ nm pair (O (N ⟨g,off,J⟩) n c)] w (axu nm pair is w):=by
 have hg:=hA.lt (λz=>by rw[z] at hn;simp at hn;omega);have HA:=G hA;have HN:=G hn;have axz:af (∀i,i<n->1<=(is.getD i ay).op/\(is.getD i ay).op<=26):=λi hi=>axr aX (by rw[hn];exact hi);have HV:=G (λW (h:aj w w W)=>adX nm pair g off n c is W (hA.below h hg) hn h0 I);rw[aX] at HV;unfold wZ at HV;obtain⟨w2,gM⟩:∃w2:Y,w2=(w.alloc (ag #[.string nm,pair,O (N ⟨g,off,J⟩) n c] 64)).alloc (ag #[au ⟨#[]⟩,X,O J 0 0] 64):=⟨_,rfl⟩;have aS:af (aj w w w2):=by show aj _ _ _;rw[gM];exact((aN _ _).alloc (aC _) _).alloc bB _
 have fw:w2.heap.size=w.heap.size+2:=Rp;have K0:af (ai w2 w 64 #[.string nm,pair,O (N ⟨g,off,J⟩) n c]):=by show ai _ _ _ _;rw[gM];exact(ai.new w _ _).alloc _
 have K1:af (ai w2 (w.heap.size+1) 64 #[au ⟨#[]⟩,X,O J 0 0]):=by show ai _ _ _ _;rw[gM];have:=(ai.new (w.alloc (ag #[.string nm,pair,O (N ⟨g,off,J⟩) n c] 64)) 64 #[au ⟨#[]⟩,X,O J 0 0]);rw[aW] at this;exact this
 clear hA hn aX;unfold wZ;go_enter func11,ntmps11;go_upto_region 1 with fail;rw[<-gM];clear gM;have y0:w2.cell? ⟨w,0,J⟩=N (.string nm):=K0.cell 0;have y1:w2.cell? ⟨w,1,J⟩=N (ax pair):=K0.cell 1;have y2:w2.cell? ⟨w,2,J⟩=N (O (N ⟨g,off,J⟩) n c):=K0.cell 2;go_wp2_with fail;refine(HV w2 aS).mono ?_;rintro e' w3 ⟨rfl,aR⟩;have fM:=aR.size;have L0:=G (K0.below aR I);have L1:=G (K1.below aR I);have bC:=G (aU aS aR);clear aR K0 K1 y0 y1 y2 HV;go_wp2_with fail;refine(ald _).mono ?_;rintro e' w4 ⟨rfl,bu⟩;have rH:=bu.size;have hs:=run_storeCells_new (P:=aa) w4 139 zeroCells139 uY Ub Xo Xp;have hs':=run_storeAt_new (P:=aa) w4 139 zeroCells139 uY Ub Xo Xp;go_upto_region 4 with fail;obtain⟨w5,ym⟩:∃w5:Y,w5=w4.alloc (ag uY 139):=⟨_,rfl⟩;have BJ:w5.heap.size=w4.heap.size+1:=aby;have Xk:aj w4 w4 w5:=by rw[ym];exact(aN _ _).alloc (aC _) _
 have xV:aj w3 w3 w5:=aU bu Xk;have M0:=G (L0.below xV I);have M1:=G (L1.below xV I);have HT:af (ai w5 w4 139 uY):=by show ai _ _ _ _;rw[ym];exact ai.new w4 _ _
 have fT:=G (aU bC xV);rw[<-ym];clear ym hs hs' bu Xk xV L0 L1;have y2:w5.cell? ⟨w,2,J⟩=N (O (N ⟨g,off,J⟩) n c):=M0.cell 2;obtain⟨cs,ql,Gz⟩:=axt n I w5;go_upto_region 5 with fail;obtain⟨w6,pQ⟩:∃w6:Y,w6=w5.alloc (ag cs 142):=⟨_,rfl⟩;have Eg:w6.heap.size=w5.heap.size+1:=by rw[pQ];simp only[aW]
 have Xu:aj w5 w5 w6:=by rw[pQ];exact(aN _ _).alloc (aC _) _
 have HOWN:af (w6.ownsRow w5 142 3 (O w5 0 n) 0 (kR [])):=by refine⟨rfl,.inr ⟨w5.heap.size,n,cs,rfl,aC _,?_,FI _,by unfold maxLen;omega,ql,by simp[kR]⟩⟩;rw[pQ];exact ai.new w5 _ _
 have N0:=G (M0.below Xu I);have N1:=G (M1.below Xu I);have HT6:=G (HT.below Xu I);have axA:=G Xu;rw[<-pQ];clear pQ Gz ql Xu y2;have y2:w6.cell? ⟨w,2,J⟩=N (O (N ⟨g,off,J⟩) n c):=N0.cell 2;go_wp2_with fail;clear y2 N0 N1 HT6;obtain⟨i0,gz,fu,gq,fG⟩:=info_parts adv;have axB:af (w6.ownsRow w5 142 3 (O (N ⟨w4.heap.size+1,0,J⟩) 0 n) 0 (kR [])):=by show World.ownsRow _ _ _ _ _ _ _;rw[<-BJ];exact HOWN
 go_loopw [5,27] (λov iv wr=>∃(i:Nat) (out:List Ins),iv=C D (i:Int)/\i<=n/\out=(is.take i).foldl lG []/\out.length<=i/\wr.ownsRow w5 142 3 ov out.length (kR out)/\aj w5 w5 wr) (λ_ iv _=>n-(intOf iv).toNat);case atStart=>exact⟨0,[],rfl,FI _,rfl,aC _,axB,axA⟩
 obtain⟨i,out,rfl,hi,hout,hol,aV,aH⟩:=hrel;obtain⟨wo,rfl⟩:=dz wr;have Oj:=G hout;have HO:=G aV;have bA:=G aH;have eP:=aH.size;have hl0:w.heap.size<wo.heap.size:=I;clear hout aV aH;by_cases aO:i<n;case neg=>
  have F:af (wM is=out):=by show _=_;rw[Oj.E,o7 Rw];rfl
  obtain⟨A6,c6,rfl⟩:=eO HO;have m0:=M0.below bA I;have m1:=M1.below bA I;have y0:wo.cell? ⟨w,0,J⟩=N (.string nm):=m0.cell 0;have y1:wo.cell? ⟨w,1,J⟩=N (ax pair):=m0.cell 1;have z0:wo.cell? ⟨w.heap.size+1,0,J⟩=N (au ⟨#[]⟩):=m1.cell 0;have z1:wo.cell? ⟨w.heap.size+1,1,J⟩=N (ax X):=m1.cell 1;have z2:wo.cell? ⟨w.heap.size+1,2,J⟩=N (O J 0 0):=m1.cell 2;have zf:=m1.frozen;go_wp2_with fail;have hk:ai (((wo.setCell ⟨w.heap.size+1,0,J⟩ (.string nm)).setCell ⟨w.heap.size+1,1,J⟩ (ax pair)).setCell ⟨w.heap.size+1,2,J⟩ (O A6 out.length c6)) (w.heap.size+1) 64 #[.string nm,pair,O A6 out.length c6]:=by have:=((m1.bL 0 (.string nm)).bL 1 (ax pair)).bL 2 (O A6 out.length c6);simpa using this
  have aY:∀q,(O A6 out.length c6).ownBlock≠N (⟨w.heap.size+1,q,J⟩:aK).block:=λq e=>by have:=lJ HO _ e;simp only[] at this;omega
  have aV:=mO (mO (mO HO (aY 0) (.string nm)) (aY 1) (ax pair)) (aY 2) (O A6 out.length c6);have eH:=(((fT.trans (bA.mono I)).setCell (p:=⟨w.heap.size+1,0,J⟩) Cz (.string nm)).setCell (p:=⟨w.heap.size+1,1,J⟩) Cz (ax pair)).setCell (p:=⟨w.heap.size+1,2,J⟩) Cz (O A6 out.length c6);generalize Bp _ ⟨w.heap.size+1,2,J⟩ _=wz at*;have q0:=hk.cell 0;have q1:=hk.cell 1;have q2:=hk.cell 2;simp only[iH,iI,iX] at q0 q1 q2;refine eX (v:=bz #[aD #[.string nm,pair,O A6 out.length c6],C D 0]) ?_ rfl ⟨O A6 out.length c6,rfl,by rw[F.E];exact Fj aV I,eH⟩;simp[results,results11,go_sem,q0,q1,q2]
 have b3:(i:Int)<(n:Int):=I;obtain⟨a0,a1,a2⟩:=(HA.below (fT.trans (bA.mono I)) hg) i U4;obtain⟨h1,h2⟩:=axz i aO;have U6:=G (axv U4 out Oj);generalize is.getD i ay=x at*;obtain⟨op,a,b⟩:=x;simp only[] at a0 a1 a2 h1 h2;obtain⟨k,rfl⟩:∃k:Nat,op=(k:Int):=⟨op.toNat,I⟩;obtain⟨nmr,us,r0,r1,r2,r3⟩:=ale (k:Int) h1 h2;simp only[Int.toNat_natCast] at r0 r1 r2 r3;obtain⟨ht2,fH⟩:=alh (k:Int);obtain⟨tk,GH⟩:∃t,t=dZ (k:Int):=⟨_,rfl⟩;obtain⟨pt,lM⟩:∃t,t=ji (k:Int):=⟨_,rfl⟩;have Kl:af (tk=dZ (k:Int)/\pt=ji (k:Int)):=⟨GH,lM⟩;rw[<-GH] at r1 ht2;rw[<-lM] at r2 fH;clear GH lM;have b27:(k:Int)<27:=I;have QG:=G (HT.below bA I);have jg:af (Reads ((wo.alloc (ag #[(k:Int),a,b] 142)).alloc (ag #[(k:Int),a,b] 142)) (wo.heap.size+2) 3 (N ⟨wo.heap.size+1,0,J⟩) 1 [C D (k:Int),C D a,C D b]):=by have:=mX (wo.alloc (ag #[(k:Int),a,b] 142)) #[(k:Int),a,b] 142 3 rfl;rw[aW] at this;exact this
 have HX:=G ((ai.new wo 142 #[(k:Int),a,b]).alloc (ag #[(k:Int),a,b] 142));have ZC:=G (lJ HO);have Z9:=G (HO.lt);rcases sw pt with hp0|hp0;case inl=>
  have FS:af (lG out (⟨(k:Int),a,b⟩:Ins)=out++ [(⟨(k:Int),a,b⟩:Ins)]):=by show _=_;unfold lG;rw[if_pos];show ji (k:Int)=0\/dZ (k:Int)=0\/out.length<dZ (k:Int);rw[<-Kl.E.1,<-Kl.E.2];exact .inl hp0
  exact adZ
 have k8:((pt:Int)==0)=X:=by have:(pt:Int)≠0:=I;simpa using this
 rcases sw tk with ht0|ht0;case inl=>
  have FS:af (lG out (⟨(k:Int),a,b⟩:Ins)=out++ [(⟨(k:Int),a,b⟩:Ins)]):=by show _=_;unfold lG;rw[if_pos];show ji (k:Int)=0\/dZ (k:Int)=0\/out.length<dZ (k:Int);rw[<-Kl.E.1,<-Kl.E.2];exact .inr (.inl ht0)
  exact adZ
 have k9:((tk:Int)==0)=X:=by have:(tk:Int)≠0:=I;simpa using this
 rcases jl out.length tk with hlk|hlk;case inl=>
  have FS:af (lG out (⟨(k:Int),a,b⟩:Ins)=out++ [(⟨(k:Int),a,b⟩:Ins)]):=by show _=_;unfold lG;rw[if_pos];show ji (k:Int)=0\/dZ (k:Int)=0\/out.length<dZ (k:Int);rw[<-Kl.E.1,<-Kl.E.2];exact .inr (.inr hlk)
  exact adZ
 have k10:decide ((out.length:Int)<(tk:Int))=X:=fI;have WV:af (¬(ji (k:Int)=0\/dZ (k:Int)=0\/out.length<dZ (k:Int))):=by show ¬_;rw[<-Kl.E.1,<-Kl.E.2];omega
 go_wp2_with(at_builtin;refine pX _ rfl (.tmp 31) (.tmp 33) _ rfl w5.heap.size 142 i0 _ 3 24 underlying62 gz fu gq fG rfl I _ out.length (kR out) rfl ((HO.alloc _).alloc _) (wo.heap.size+2) (N ⟨wo.heap.size+1,0,J⟩) 1 1 [C D (k:Int),C D a,C D b] rfl jg rZ lH I bB ?_;intro v6 wn dw bU iT;obtain⟨g6,c6,rfl,axx,ad1⟩:=dw.form I;have hc6:=Xt dw;have oI:=HX.grown bU (by intro e;have:=Z9 _ e.symm;omega);have QI:=((QG.alloc _).alloc _).grown bU (by intro e;have:=ZC _ e.symm;omega);have c0:wn.cell? ⟨wo,0,J⟩=N (C D (k:Int)):=oI.cell 0;have c1:wn.cell? ⟨wo,1,J⟩=N (C D a):=oI.cell 1;have d1:=(QI.cell (k*4+1)).trans r1;have d2:=(QI.cell (k*4+2)).trans r2;have Eh:=G oI;have QJ:=G (bA.trans (((aN _ _).alloc eP (ag #[(k:Int),a,b] 142)).trans (((aN _ _).alloc bB (ag #[(k:Int),a,b] 142)).trans (tu ((HO.alloc _).alloc _) bU bB))));have ad2:=bU.size;simp only[aW] at ad2;have oL:=G dw;clear dw bU iT oI QI);have hpre:=aaL oL (Nat.le_succ out.length);have alu:(kR out++ [C D (k:Int),C D a,C D b]).take (out.length*3)=kR out:=by rw[<-als out,List.take_left]
 rw[alu] at hpre;have hins:=(um.own hpre).drop (k:=out.length-tk) I;have alv:=G hins;clear hpre alu;refine(axo 40 (λy=>decide (y.op≠1)) axp (out.drop (out.length-tk)) g6 ((out.length-tk)*3) _ _ wn hins (by rw[MM]) ad1 I (λy W=>axq y W)).mono ?_;rintro e' w7 ⟨rfl,fF⟩;have Dl:=fF.size;have jk:=G fF;have QK:=Eh.below fF I;have aaM:=G (alv.below fF ad1);have c0:w7.cell? ⟨wo,0,J⟩=N (C D (k:Int)):=QK.cell 0;have c1:w7.cell? ⟨wo,1,J⟩=N (C D a):=QK.cell 1;clear hins fF QK d1 d2;cases hany:(out.drop (out.length-tk)).any (λy=>decide (y.op≠1));case true=>
  have FS:af (lG out (⟨(k:Int),a,b⟩:Ins)=out++ [(⟨(k:Int),a,b⟩:Ins)]):=by show _=_;unfold lG;rw[if_neg WV.E];show(if(out.drop (out.length-dZ (k:Int))).any _=Z then _ else _)=_;rw[<-Kl.E.1,if_pos hany]
  go_wp2_with fail;refine⟨⟨i+1,out++ [(⟨(k:Int),a,b⟩:Ins)],bR,I,by rw[U6.E,FS.E],G5,?_,QJ.trans (jk.mono I)⟩,bW⟩;rw[eB,mf,Qp];exact own_below oL jk
 have bH:(out.drop (out.length-tk)).length=tk:=KJ;obtain⟨ys,hys⟩:∃l,l=out.drop (out.length-tk):=⟨_,rfl⟩;have FS:af (lG out (⟨(k:Int),a,b⟩:Ins)=match iC (k:Int) a (ys.getD 0 ay).a (if tk=2 then(ys.getD 1 ay).a else 0) with
   |none=>out++ [(⟨(k:Int),a,b⟩:Ins)]
   |some v=>out.take (out.length-tk)++ [(⟨1,v,0⟩:Ins)]):=by
  show _=_
  unfold lG
  rw[if_neg WV.E]
  show(if(out.drop (out.length-dZ (k:Int))).any _=Z then _ else(match iC (k:Int) a ((out.drop (out.length-dZ (k:Int))).getD 0 ay).a (if dZ (k:Int)=2 then((out.drop (out.length-dZ (k:Int))).getD 1 ay).a else 0) with
   |none=>out++ [(⟨(k:Int),a,b⟩:Ins)]
   |some v=>out.take (out.length-dZ (k:Int))++ [(⟨1,v,0⟩:Ins)]))=_
  rw[<-Kl.E.1,if_neg (by rw[hany];simp),hys]
 rw[<-hys] at aaM bH;obtain⟨m,hm⟩:∃m,m=out.length-tk:=⟨_,rfl⟩;rw[<-hm] at aaM FS;have hmo:out.length=m+tk:=I;have e7:out.length-(out.length-tk)=tk:=I;obtain⟨f0,f1,f2⟩:=aaM 0 I;rw[Nat.zero_mul,mZ] at f0 f1 f2;have HOT:=G (aaL (own_below oL jk) (show m<=out.length+1 by omega));have HOM:af (w7.ownsRow w5 142 3 (O g6 m c6) m (kR (out.take m))):=by show World.ownsRow _ _ _ _ _ _ _;have h:=HOT;rw[List.take_append_of_le_length (by rw[als];omega),axs] at h;exact h
 have e8:out.length-m=tk:=I;simp only[<-hm,e8];clear WV alv hm e7 hany;rcases(show tk=1\/tk=2 by omega) with rfl|rfl
 ·have HEV:af (lG out (⟨(k:Int),a,b⟩:Ins)=match iC (k:Int) a (ys.getD 0 ay).a 0 with
    |none=>out++ [(⟨(k:Int),a,b⟩:Ins)]
    |some v=>out.take m++ [(⟨1,v,0⟩:Ins)]):=FS
  have AQ:=G (λW=>WZ (k:Int) a (ys.getD 0 ay).a 0 W)
  generalize(ys.getD 0 ay).a=y0 at*
  clear FS
  go_wp2_with fail
  refine(AQ _).mono ?_
  rintro e' w8 ⟨rfl,hw8⟩
  subst hw8
  cases hev:iC (k:Int) a y0 0
  case none=>
   have FN:af (lG out (⟨(k:Int),a,b⟩:Ins)=out++ [(⟨(k:Int),a,b⟩:Ins)]):=YQ
   unfold Dp
   go_wp2_with fail
   refine⟨⟨i+1,out++ [(⟨(k:Int),a,b⟩:Ins)],bR,I,Y2,G5,?_,QJ.trans (jk.mono I)⟩,bW⟩
   rw[eB,mf,Qp]
   exact afm
  case some v=>
   have FN:af (lG out (⟨(k:Int),a,b⟩:Ins)=out.take m++ [(⟨1,v,0⟩:Ins)]):=YQ
   have HR8:=G (mX w7 #[C D 1,v,C D 0] 142 3 rfl)
   unfold Dp
   go_wp2_with(at_builtin;refine pX _ rfl (.tmp 92) (.tmp 95) _ rfl w5.heap.size 142 i0 _ 3 24 underlying62 gz fu gq fG rfl I (O g6 m c6) m (kR (out.take m)) rfl (HOM.alloc _) (w7.heap.size+1) (N ⟨w7,0,J⟩) 1 1 [C D 1,C D v,C D 0] rfl HR8 rZ lH I bB ?_;intro v9 w9 I7 Mm ad3;obtain⟨A9,c9,rfl⟩:=eO I7;have HF9:=G (bI I7 Mm);clear I7 Mm ad3)
   obtain⟨I7,Mm⟩:=HF9
   have YP:(out.take m).length=m:=OW
   refine⟨⟨i+1,out.take m++ [(⟨1,v,0⟩:Ins)],bR,I,Y2,afg,?_,(QJ.trans (jk.mono I)).trans (((aN _ _).alloc I _).trans (tu (HOM.alloc _) Mm bB))⟩,bW⟩
   rw[eB,mf,Qp,YP]
   exact I7
 obtain⟨l0,l1,l2⟩:=aaM 1 I;rw[Nat.one_mul] at l0 l1 l2;have HEV:af (lG out (⟨(k:Int),a,b⟩:Ins)=match iC (k:Int) a (ys.getD 0 ay).a (ys.getD 1 ay).a with
   |none=>out++ [(⟨(k:Int),a,b⟩:Ins)]
   |some v=>out.take m++ [(⟨1,v,0⟩:Ins)]):=FS
 have AQ:=G (λW=>WZ (k:Int) a (ys.getD 0 ay).a (ys.getD 1 ay).a W);generalize(ys.getD 1 ay).a=y1 at*;generalize(ys.getD 0 ay).a=y0 at*;clear FS;go_wp2_with fail;refine(AQ _).mono ?_;rintro e' w8 ⟨rfl,hw8⟩;subst hw8;cases hev:iC (k:Int) a y0 y1;case none=>have FN:af (lG out (⟨(k:Int),a,b⟩:Ins)=out++ [(⟨(k:Int),a,b⟩:Ins)]):=YQ;unfold Dp;go_wp2_with fail;refine⟨⟨i+1,out++ [(⟨(k:Int),a,b⟩:Ins)],bR,I,Y2,G5,?_,QJ.trans (jk.mono I)⟩,bW⟩;rw[eB,mf,Qp];exact afm
 case some v=>have FN:af (lG out (⟨(k:Int),a,b⟩:Ins)=out.take m++ [(⟨1,v,0⟩:Ins)]):=YQ;have HR8:=G (mX w7 #[C D 1,v,C D 0] 142 3 rfl);unfold Dp;go_wp2_with(at_builtin;refine pX _ rfl (.tmp 92) (.tmp 95) _ rfl w5.heap.size 142 i0 _ 3 24 underlying62 gz fu gq fG rfl I (O g6 m c6) m (kR (out.take m)) rfl (HOM.alloc _) (w7.heap.size+1) (N ⟨w7,0,J⟩) 1 1 [C D 1,C D v,C D 0] rfl HR8 rZ lH I bB ?_;intro v9 w9 I7 Mm ad3;obtain⟨A9,c9,rfl⟩:=eO I7;have HF9:=G (bI I7 Mm);clear I7 Mm ad3);obtain⟨I7,Mm⟩:=HF9;have YP:(out.take m).length=m:=OW;refine⟨⟨i+1,out.take m++ [(⟨1,v,0⟩:Ins)],bR,I,Y2,afg,?_,(QJ.trans (jk.mono I)).trans (((aN _ _).alloc I _).trans (tu (HOM.alloc _) Mm bB))⟩,bW⟩;rw[eB,mf,Qp,YP];exact I7
theorem alx{l:List mP}(h:Reads w B 7 A n (EJ l))(hk:k<n):
  ∃ad,A=N ad/\ad.block<B/\w.cell? (ad.add (k*7))=N (C D (l.getD k ay).entry)/\w.cell? ⟨(ad.add (k*7)).block,(ad.add (k*7)).off+1,J⟩=N (C D (l.getD k ay).line)/\w.cell? ⟨(ad.add (k*7)).block,(ad.add (k*7)).off+2,J⟩=N (C D (l.getD k ay).bD)/\w.cell? ⟨(ad.add (k*7)).block,(ad.add (k*7)).off+3,J⟩=N (C D (l.getD k ay).dM)/\w.cell? ⟨(ad.add (k*7)).block,(ad.add (k*7)).off+4,J⟩=N (C D (l.getD k ay).partner)/\w.cell? ⟨(ad.add (k*7)).block,(ad.add (k*7)).off+5,J⟩=N (C D (l.getD k ay).date)/\w.cell? ⟨(ad.add (k*7)).block,(ad.add (k*7)).off+6,J⟩=N (C D (l.getD k ay).amount):=by obtain⟨ad,rfl,hb,hc⟩:=Reads.seven (f:=Uc) (λ_=>rfl) h hk ay;have g0:=hc 0 _ I rfl;have g1:=hc 1 _ I rfl;have g2:=hc 2 _ I rfl;have g3:=hc 3 _ I rfl;have g4:=hc 4 _ I rfl;have g5:=hc 5 _ I rfl;have g6:=hc 6 _ I rfl;rw[<-mW,nS _ 1 I] at g1;rw[<-mW,nS _ 2 I] at g2;rw[<-mW,nS _ 3 I] at g3;rw[<-mW,nS _ 4 I] at g4;rw[<-mW,nS _ 5 I] at g5;rw[<-mW,nS _ 6 I] at g6;exact⟨ad,rfl,hb,g0,g1,g2,g3,g4,g5,g6⟩
theorem axC(f t p:Int)(l:List mP)(k:Nat)(hk:k<l.length)(n:Int):BX f t p (l.drop k) n=BX f t p (l.drop (k+1)) (if acT f t p (l.getD k ay)=Z then jf (n+(l.getD k ay).amount) else n):=by have e:l.getD k ay=l[k]:=zV;rw[DY hk,e];rfl
theorem ad4(n:Int)(w:Y):aF aa 94 #[n] w λe' w'=>e'=aI (bX n)/\w=w':=by have F:af (bX n=(decide (-1000000000000<=n)&&decide (n<=1000000000000))):=rfl;have k0:decide (n>= -1000000000000)=decide (-1000000000000<=n):=rfl;cases h1:decide (-1000000000000<=n)<;>cases h2:decide (n<=1000000000000);all_goals(rw[h1,h2] at F;rw[h1] at k0;go_enter func94,ntmps94;go_wp2_with fail;go_ret;exact⟨ic,rfl⟩)
theorem aaN(mb:Nat)(m:gF)(other:Int)(gL:ak)(pb:Nat)(sum:Int)(B:Nat)(w:Y)(hM:ru w mb m other gL pb sum)(hm:m.ok w B)(hB:B<=w.heap.size)(f t p:Int):
  aF aa 99 #[aQ mb,f,t,p] w λe w'=>e=aI (Xr (BX f t p m.s.items 0) (bX (BX f t p m.s.items 0)))/\aj w w w':=by
 obtain⟨A,n,c,iE,hl,hn,hr⟩:=hm.2.2.2.2.2;have y6:w.cell? ⟨mb,6,J⟩=N (O A n c):=by rw[<-iE];exact hM.cell 6
 have HR:=G hr;have HL:=G hl;obtain⟨tot,htot⟩:∃s,s=BX f t p m.s.items 0:=⟨_,rfl⟩;have aly:=G htot;rw[<-htot];have I6:=G (λW=>ad4 tot W);obtain⟨l,hls⟩:∃l,l=m.s.items:=⟨_,rfl⟩;rw[<-hls] at HR HL aly;clear hM hm iE hr hl htot hls;go_enter func99,ntmps99;go_wp2_with fail;go_loopw [10,19] (λnv iv wr=>∃(i:Nat) (s:Int),nv=C D s/\iv=C D (i:Int)/\i<=n/\tot=BX f t p (l.drop i) s/\aj w w wr) (λ_ iv _=>n-(intOf iv).toNat);case atStart=>exact⟨0,0,rfl,rfl,FI _,aly,aN _ _⟩
 obtain⟨i,s,rfl,rfl,hi,hs,aH⟩:=hrel;obtain⟨wo,rfl⟩:=dz wr;have HS:=G hs;have bA:=G aH;have eP:=aH.size;clear hs aH;by_cases aO:i<n;case neg=>
  have e:tot=s:=by rw[HS.E,Qy U5];rfl
  subst e;go_wp2_with fail;refine(I6 _).mono ?_;rintro e' w2 ⟨rfl,gM⟩;subst gM;go_wp2_with fail;go_ret2;exact⟨rfl,bA⟩
 have b3:(i:Int)<(n:Int):=I;obtain⟨ad,rfl,_,c0,c1,c2,c3,c4,c5,c6⟩:=alx (HR.below (bA.mono hB)) aO;have hstp:=axC f t p l i zW s;rw[<-HS.E] at hstp;have gP:=G hstp;have FT:af (acT f t p (l.getD i ay)=(decide (f<=(l.getD i ay).dM)&&decide ((l.getD i ay).dM<=t)&&(decide (p<0)||decide ((l.getD i ay).partner=p)))):=rfl;clear hstp;generalize l.getD i ay=x at*;obtain⟨x0,x1,x2,x3,x4,x5,x6⟩:=x;simp only[] at c0 c1 c2 c3 c4 c5 c6 FT;have k4:decide (x3>=f)=decide (f<=x3):=rfl;have k5:(x4==p)=decide (x4=p):=rfl;have uI:=G (bA.alloc eP (ag #[x0,x1,x2,x3,x4,x5,x6] 101));cases q1:decide (f<=x3)<;>cases q2:decide (x3<=t)<;>cases q3:decide (p<0)<;>cases q4:decide (x4=p);all_goals
  rw[q1,q2,q3,q4] at FT;rw[q1] at k4;rw[q4] at k5;rw[FT.E] at gP;go_wp2_with fail;exact⟨⟨i+1,_,KO,bR,I,gP,uI⟩,bW⟩
structure mG(mb pb:Nat)(w w':Y):Prop where
 os:w'.os=w.os
 tape:w'.tape=w.tape
 output:w'.output=w.output
 size:w.heap.size<=w'.heap.size
 block:∀k,k<w.heap.size->k≠mb->k≠pb->w'.heap[k]?=w.heap[k]?
theorem mG.below(h:mG mb pb w w')(h1:B<=mb)(h2:B<=pb)(hB:B<=w.heap.size):aj B w w':=⟨h.os,h.tape,h.output,h.size,λk hk=>h.block k I I I⟩
theorem mG.trans{a b c:Y}(h:mG mb pb a b)(k:mG mb pb b c):mG mb pb a c:=⟨k.os.trans h.os,k.tape.trans h.tape,k.output.trans h.output,ja h.size k.size,λi hi h1 h2=>(k.block i (yA hi h.size) h1 h2).trans (h.block i hi h1 h2)⟩
theorem mG.of_below{a b:Y}(h:aj a a b):mG mb pb a b:=⟨h.os,h.tape,h.output,h.size,λi hi _ _=>h.block i hi⟩
theorem ai.gK{t:bM}{cs:Array ak}(h:ai w g t cs)(hk:mG mb pb w w')(h1:g≠mb)(h2:g≠pb):ai w' g t cs:=(hk.block g h.lt h1 h2).trans h
theorem axD{a:Int}(h:iw a=Z):(Lit.int .i64 a).wf=Z:=by unfold iw at h;rw[bq,decide_eq_true_eq,decide_eq_true_eq] at h;have e1:IntKind.i64.min= -9223372036854775808:=aL;have e2:IntKind.i64.max=9223372036854775807:=aL;show(decide (IntKind.i64.min<=a)&&decide (a<=IntKind.i64.max))=Z;rw[e1,e2,decide_eq_true I,decide_eq_true I];rfl
theorem ad5(mb pb:Nat)(m:gF)(other sum:Int)(gL:ak)(l:List (Int × Int))(w:Y)(hM:ru w mb m other gL pb sum)(hP:eD mE w pb l)(a n:Int)(ha:iw a=Z):
  aF aa 101 #[aQ mb,a,n] w λe w'=>e=aI (bz #[])/\ru w' mb m other gL pb (jf (sum+n))/\eD mE w' pb (jH l a (jf (dX 0 l a+n)))/\mG mb pb w w':=by
 have HM:=G hM;have HP:=G hP;have aX:mE.ok a:=axD ha;have dI:=G aX;have aY:mb≠pb:=λe=>adw hP hM e.symm;have y9:w.cell? ⟨mb,9,J⟩=N (.map (N pb)):=hM.cell 9;obtain⟨gv,hgv⟩:∃v,v=dX 0 l a:=⟨_,rfl⟩;have Ud:=G hgv;rw[<-hgv];clear hM hP aX hgv;go_enter func101,ntmps101;go_wp2_with(first|(at_lookup;refine JR (M:=mE) _ iN _ _ rfl pb l a rfl rfl HP dI ?_;rw[show mE.U (dX mE.d l a)=C D gv from congrArg (C D) Ud.E.symm])|(at_mapUpdate;refine VL (M:=mE) _ rfl _ _ _ rfl pb l a (jf (gv+n)) rfl rfl rfl HP dI ?_;intro w8 xS qL;have hM8:=HM.grown qL (by intro e;injection e with e;exact aY e);have Xv:w8.cell? ⟨mb,10,J⟩=N (C D sum):=hM8.cell 10;have yf:=hM8.frozen;have HM8:=G hM8;have HP8:=G xS;have HG8:=G qL;clear hM8 xS qL));go_end0;have hk:=HM8.bL 10 (C D (jf (sum+n)));refine⟨rfl,by unfold ru;simpa using hk,?_,?_⟩;·exact HP8.kept (jm _ (⟨mb,10,J⟩:aK) _ pb (λe=>aY e.symm))
 have hg:=HG8;refine⟨hg.os,hg.tape,hg.output,by have:=hg.size;simpa using this,λk hk h1 h2=>?_⟩;exact(jm _ (⟨mb,10,J⟩:aK) _ k h1).trans (hg.block k hk (λe=>h2 RA))
def ad6(x:mP):ak:=aD #[x.entry,x.line,x.bD,x.dM,x.partner,x.date,x.amount]
theorem axE{p:mP->Bool}{xs:List mP}(hk:k<xs.length)(h:p (xs.getD k ay)=Z):xs.any p=Z:=by exact alk
theorem axF{p:mP->Bool}{xs:List mP}(hk:k<xs.length)(h:(xs.take k).any p=X)(h':p (xs.getD k ay)=X):(xs.take (k+1)).any p=X:=by rw[sD hk,List.any_append,h];have e:xs.getD k ay=xs[k]:=zV;rw[e] at h';simp[h']
theorem axG(args:Array ak)(w:Y):(callFunc 93 args).run aa w= .ok (.enter 93 args) w:=by simp[go_sem]
theorem axH(y:mP)(w:Y):aF aa 93 #[ad6 y] w λe w'=>e=aI (!bX y.amount)/\aj w w w':=by obtain⟨x0,x1,x2,x3,x4,x5,x6⟩:=y;unfold ad6;simp only[];have sK:=(aN w w).alloc (aC _) (ag #[x0,x1,x2,x3,x4,x5,x6] 101);have I6:=G (ad4 x6);go_enter func93,ntmps93;go_wp2_with fail;refine(I6 _).mono ?_;rintro e' w2 ⟨rfl,gM⟩;subst gM;go_wp2_with fail;go_ret;exact⟨rfl,sK⟩
def GI(y:mP):Bool:= !bX y.amount
def axI(xs:List mP)(w:Y)(e:Ending)(w':Y):Prop:=∃r:Int,e=aI r/\decide (0<=r)=xs.any GI/\aj w w w'
theorem axJ(xs:List mP)(B:Nat)(A:Option aK)(na ca:Nat)(w:Y)(hr:Reads w B 7 A na (EJ xs))(bH:xs.length=na)(hB:B<=w.heap.size)(jG:na<=1000000000000):
  aF aa 163 #[O A na ca,.func (.func 93) #[] #[]] w (axI xs w):=by
 have gH:=G bH;have HR:=G hr;have oo:=axG;clear hr bH;go_enter func163,ntmps163;go_wp2_with fail;go_loopw [8] (λiv wr=>∃i:Nat,iv=C D i/\i<=na/\(xs.take i).any GI=X/\aj w w wr) (λiv _=>na-(intOf iv).toNat);case atStart=>exact⟨0,rfl,I,rfl,aN _ _⟩
 obtain⟨i,rfl,hi,hd,aH⟩:=hrel;obtain⟨wo,rfl⟩:=dz wr;have eP:=aH.size;by_cases aO:i<na;case neg=>exact alm
 have b3:(i:Int)<(na:Int):=I;have dA:i<xs.length:=by rw[gH.E];exact aO
 obtain⟨ad,rfl,_,a0,a1,a2,a3,a4,a5,a6⟩:=alx (HR.below (aH.mono hB)) aO;have HC:=G (axH (xs.getD i ay) wo);have HY:af (GI (xs.getD i ay)=Z->xs.any GI=Z):=λh=>axE dA h;have HN:af (GI (xs.getD i ay)=X->(xs.take (i+1)).any GI=X):=λh=>axF dA hd h;have HBM:af (GI (xs.getD i ay)= !bX (xs.getD i ay).amount):=rfl;unfold ad6 at HC;clear dA hd;generalize xs.getD i ay=y at*;rw[<-HBM.E] at HC;generalize GI y=py at*;obtain⟨x0,x1,x2,x3,x4,x5,x6⟩:=y;simp only[] at HC a0 a1 a2 a3 a4 a5 a6;clear HBM;cases py;·have F:=G (HN rfl);clear HN HY;go_wp2_with fail;refine HC.mono ?_;rintro e' w1 ⟨rfl,hb⟩;have HB:=G (aU aH hb);clear hb aH a0 a1 a2 a3 a4 a5 a6;exact aln
 have F:=G (HY rfl);clear HN HY;go_wp2_with fail;refine HC.mono ?_;rintro e' w1 ⟨rfl,hb⟩;have HB:=G (aU aH hb);clear hb aH a0 a1 a2 a3 a4 a5 a6;go_wp2_with fail;go_ret;exact⟨i,rfl,Rq,HB⟩
theorem axK(xs:List mP)(B:Nat)(A:Option aK)(na ca:Nat)(w:Y)(hr:Reads w B 7 A na (EJ xs))(bH:xs.length=na)(hB:B<=w.heap.size)(jG:na<=1000000000000):
  aF aa 92 #[O A na ca,.func (.func 93) #[] #[]] w λe w'=>e=aI (xs.any GI)/\aj w w w':=by have HI:=G (axJ xs B A na ca w hr bH hB jG);clear hr bH jG;go_enter func92,ntmps92;exact alo
theorem alz(mb:Nat)(m:gF)(other:Int)(gL:ak)(pb:Nat)(sum:Int)(B:Nat)(w:Y)(hM:ru w mb m other gL pb sum)(hm:m.ok w B)(hB:B<=w.heap.size)(n:Int):
  aF aa 100 #[aQ mb,n] w λe w'=>e=aI (Dp (J4 m.s.sa m.s.sb n))/\aj w w w':=by
 obtain⟨hA,hBb,aT,aB,wY,_⟩:=hm;have HSC:=G (axc m.nn m.nm m.dn m.dm m.s.sa m.s.sb n B w hA hBb hB aT aB wY);obtain⟨e1,A1,n1,c1,e2⟩:=hA.forms;obtain⟨e3,A2,n2,c2,e4⟩:=hBb.forms;rw[e1,e2,e3,e4] at HSC;have y2:w.cell? ⟨mb,2,J⟩=N (ax (decide (m.s.sa<0))):=by rw[<-e1];exact hM.cell 2
 have y3:w.cell? ⟨mb,3,J⟩=N (O A1 n1 c1):=by rw[<-e2];exact hM.cell 3
 have y4:w.cell? ⟨mb,4,J⟩=N (ax (decide (m.s.sb<0))):=by rw[<-e3];exact hM.cell 4
 have y5:w.cell? ⟨mb,5,J⟩=N (O A2 n2 c2):=by rw[<-e4];exact hM.cell 5
 obtain⟨o,ho⟩:∃o,o=J4 m.s.sa m.s.sb n:=⟨_,rfl⟩;unfold alc at HSC;rw[<-ho] at HSC |-;generalize decide (m.s.sa<0)=s1 at*;generalize decide (m.s.sb<0)=s2 at*;clear hM hA hBb aT aB wY e1 e2 e3 e4 ho;go_enter func100,ntmps100;go_wp2_with fail;refine HSC.mono ?_;rintro e' w1 ⟨c,rfl,hc,hb⟩;cases o with
 |none=>
  have k0:(c==0)=X:=by
   have:c≠0:=λh=>by simpa using hc.1 h
   simpa using this
  go_wp2_with fail;go_ret2;exact⟨rfl,hb⟩
 |some v=>obtain rfl:c=0:=hc.2 rfl;clear hc;go_wp2_with fail;go_ret2;exact⟨rfl,hb⟩
def I8:Array ak:=#[C D 0,C D 0,C D 0,C D 5,C D 6,C D 0,C D 8,C D 10,C D 11,C D 12,C D 13,C D 14,C D 15,C D 16,C D 17,C D 18,C D 19,C D 20,C D 21,C D 22,C D 9,C D 0,C D 0]
theorem axL(w:Y):(Instr.build 294 #[(3,C D 5),(4,C D 6),(6,C D 8),(20,C D 9),(7,C D 10),(8,C D 11),(9,C D 12),(10,C D 13),(11,C D 14),(12,C D 15),(13,C D 16),(14,C D 17),(15,C D 18),(16,C D 19),(17,C D 20),(18,C D 21),(19,C D 22)]).run aa w= .ok (aD I8) w:=by kernel_rfl
theorem alA:(aa.info? 294).map (·.size)=N I8.size:=by kernel_rfl
theorem axM:(#[C D 0,C D 0,C D 0,C D 0,C D 0,C D 0,C D 0,C D 0,C D 0,C D 0,C D 0,C D 0,C D 0,C D 0,C D 0,C D 0,C D 0,C D 0,C D 0,C D 0,C D 0,C D 0,C D 0]:Array ak).size=I8.size:=by kernel_rfl
theorem axN:I8.all (·.oneCell')=Z:=by kernel_rfl
theorem axO(h:ai w g 294 I8)(h0:tmps.getD 0 undef=aQ g):(results f169 tmps).run aa w= .ok (aD I8) w:=results_cell_row results169 tmps w g 294 I8 (0,0) _ h0 h underlying294 rfl alA
theorem axP(w:Y):aF aa 169 #[] w λe w'=>e=aI (aD I8)/\aj w w w':=by have hs:=run_storeCells_new (P:=aa) w 294 (#[C D 0,C D 0,C D 0,C D 0,C D 0,C D 0,C D 0,C D 0,C D 0,C D 0,C D 0,C D 0,C D 0,C D 0,C D 0,C D 0,C D 0,C D 0,C D 0,C D 0,C D 0,C D 0,C D 0]:Array ak) I8 alA axM axN;go_enter func169,ntmps169;go_wp2_with((with_reducible refine Vs rfl 294 _ rfl _ ?_ (aD I8) (axL _) ?_);go_loud (simp only[List.map_toArray,kE,List.map_nil];rfl));refine eX (axO (g:=w.heap.size) (ai.new w _ _) rfl) rfl ⟨rfl,(aN _ _).alloc (aC _) _⟩
section
open Go.ChangeMaps Go.Sort Go.Maps
open Go.Shelf
attribute [local go_sem] Oper.semAt_some
theorem axQ(n:Nat)(hn:1<=n)(l Bm b:Nat)(lm:List (Int × Int))(kC:List Int->Y->Prop)
  (hY:∀pre x W,kC pre W->pre.length<lm.length->YieldAt QL (n-1) aa l #[C D x] W λe W'=>e=aI (ax Z)/\kC (pre++ [x]) W'/\KeepsWalks W W')
  (W:Y) (hJ:AbidesFrom W.heap.size kC) (hm:W.cell? ⟨Bm,0,J⟩=N (.map (N b))) (aV:eD mE W b lm) (h0:kC [] W):
  CallsIn QL n aa 221 #[.func (.yield l) #[] #[],aQ (N ⟨Bm,0,J⟩)] W λe W'=>(∃v,e=aI v)/\∃ss:List Int,ss.Perm (lm.map (·.1))/\kC ss W':=by
 have pz:(lm.map (·.1)).Nodup:=by obtain⟨_,_,_,_,_,_,_,h⟩:=aV;exact h
 have dW:=G pz;clear pz;refine callsIn_of_wp func221 rfl trivial ?_ rfl;simp only[ntmps221,AX,iP,pV,Nat.reduceAdd,Nat.reduceSub,Array.replicate_succ,Array.replicate_zero,List.push_toArray,List.append_toArray,wF,o6];gi_wp2_with (first
  |(gi_at_range;refine aq8 (M:=mE) _ rfl _ rfl b lm rfl aV ?_;intro w0 hrg0 hg0 lY)
  |gi_in)
 go_frame;gi_loopw [3] (λ_ wr=>∃(pF:Nat) (ss:List Int),vG mE wr b W.heap.size lm ss pF/\kC ss wr) (λ_ wr=>wr.rangeLeft b W.heap.size);case atStart=>exact⟨_,[],hrg0,hJ [] W w0 J h0 hg0 (λr e=>by cases e)⟩
 obtain⟨pF,ss,zw,hJs⟩:=hrel;gi_wp2_with (first
  |(gi_at_next;refine aq9 (M:=mE) _ rfl _ rfl b W.heap.size lm ss pF rfl zw ?_ ?_)
  |gi_in)
 ·intro _ hl0;gi_wp2;go_end0;exact⟨⟨_,rfl⟩,ss,(List.perm_ext_iff_of_nodup zw.nodup.1 dW.E).2 (λk=>⟨zw.nodup.2 k,λh=>by obtain⟨p,hp,e⟩:=qw.1 h;subst e;exact hl0 _ p.2 hp⟩),hJs⟩
 intro x v w2 cnt2 hrg2 aO Cf fw Ga;have hJ2:kC ss w2:=hJ ss wr w2 (N W.heap.size) hJs Cf (λr e=>by cases e;exact⟨aC _,zw.iter_walk⟩);have En:=zw.len;obtain⟨fn,tmps,assign,body,hy,hR⟩:=hY ss x _ hJ2 I;clear fw;have aDk:(Instr.entry (aQ (N ⟨W.heap.size,0,J⟩))).run aa w2= .ok (bz #[C D x,C D v]) w2:=Ga;rw[show mE.V x=C D x from rfl,show mE.U v=C D v from rfl];clear Ga;gi_wp2_with fail;refine hR.mono ?_;rintro e W3 ⟨rfl,hJ3,kV⟩;gi_wp2_with fail;have hrg3:=hrg2.of_walks kV;go_roundw;case rel=>exact⟨cnt2,ss++ [x],hrg3,hJ3⟩
 rw[hrg3.left_eq,zw.left_eq];exact aO
theorem axR(mb:Nat)(w:Y):
  aF aa 166 #[.map (N mb)] w λe w'=>e=aI (.func (.func 221) #[] #[aQ w])/\w'=w.alloc (ag #[.map (N mb)] 213):=by go_enter func166,ntmps166;go_wp2_with fail;go_ret;exact⟨rfl,rfl⟩
theorem axS(m:Nat):AnyZI.SortsIn aa sortedA_ren QL m:=
 ⟨λblk off cap ss W hH hblk bV=>callsIn_wide.2 (AnyM.slices_Sort_int sortA blk off cap ss W hH hblk bV),
 λp cap W=>callsIn_wide.2 (AnyM.slices_Sort_int_none sortA p cap W)⟩
theorem axT(Bm b:Nat)(lm:List (Int × Int))(w:Y)(hBm:Bm<w.heap.size)(hm:w.cell? ⟨Bm,0,J⟩=N (.map (N b)))(aV:eD mE w b lm)(bH:lm.length<=1000000001):
  aF aa 165 #[.func (.func 221) #[] #[aQ Bm]] w λe w'=>∃v,e=aI v/\
   w'.ownsRow w 3 1 v lm.length ((nP (lm.map (·.1))).map (C D))/\aj w w w':=by
 have hseq:SeqGives QL 2 aa 221 #[aQ Bm] encZ (λss=>ss.Perm (lm.map (·.1))) lm.length w:=λl kC W hW hJ hY h0=>axQ 2 I l Bm b lm kC hY W hJ ((hW.cell (p:=⟨Bm,0,J⟩) hBm).trans hm) (aV.below hW aV.lt) h0;have cS:=AnyZI.sorted_in sortedA QL 5 trivial trivial trivial trivial rfl I (axS _) (enters_of func167 dh rfl) 221 #[aQ Bm] trivial (enters_of func221 dh rfl) _ _ (show lm.length<=maxLen by unfold maxLen;omega) I _ hseq;refine Calls.mono ((callsIn_wide (n:=5)).1 cS) ?_;rintro e w' ⟨v,ss,rfl,hS,iF,hnil,hb⟩;have hl:ss.length=lm.length:=by rw[hS.length_eq,oz]
 have hp:(ss.mergeSort (λx y=>decide (x<=y))).Perm (lm.map (·.1)):=(List.mergeSort_perm _ _).trans hS;have eP:(ss.mergeSort (λx y=>decide (x<=y))).Pairwise (· <= ·):=by have h:=List.pairwise_mergeSort (le:=λx y:Int=>decide (x<=y)) (by intro a b c h1 h2;simp at *;omega) (by intro a b;simp;omega) ss;exact h.imp (λh=>by simpa using h)
 have e1:=ahP hp eP;refine⟨v,rfl,?_,hb⟩;rw[e1,hl] at iF;exact iF
end
def Ue(w:Y)(sb base:Nat)(v:ak)(dH:List Int):Prop:=ai w sb 174 #[v]/\w.ownsRow base 3 1 v dH.length (dH.reverse.map (C D))
theorem QM(sb base:Nat)(x:Int)(s:List Int)(v:ak)(w:Y)(h:Ue w sb base v (x::s))(bH:s.length<=1000000000):
  aF aa 98 #[aQ sb] w λe w'=>e=aI x/\∃u,u.ownBlock=v.ownBlock/\Ue w' sb base u s/\w'=w.setCell ⟨sb,0,J⟩ u:=by
 obtain⟨dU,aV⟩:=h;obtain⟨g,c,rfl,_,_⟩:=aV.form aG;have hc:=Xt aV;have uf:=aV.cells (g:=g) rfl s.length (C D x) aG;have ha:(⟨g,0,J⟩:aK).add s.length=⟨g,s.length,J⟩:=by unfold Addr.add;split<;>simp_all
 rw[ha] at uf;have y0:w.cell? ⟨sb,0,J⟩=N (O g (s.length+1) c):=dU.cell 0;have yf:=dU.frozen;have uk:=G dU;have HO:=G aV;simp only[iP] at hc;clear dU aV;go_enter func98,ntmps98;go_wp2_with fail;go_ret;have aY:(O g s.length c).ownBlock≠N sb:=by have:=iQ HO uk aL;exact this
 have ht:=aaL HO (show s.length<=(x::s).length by simp);have e1:((x::s).reverse.map (C D)).take (s.length*1)=s.reverse.map (C D):=by rw[List.reverse_cons,oM,Oo];have:s.length=(s.reverse.map (C D)).length:=aG;rw[this,List.take_left]
 rw[e1] at ht;have fw:=uk.bL 0 (O g s.length c);exact⟨rfl,O g s.length c,rfl,⟨by simpa using fw,mO ht aY _⟩,rfl⟩
def Xw(p:Int × Int):List ak:= [C D p.1,C D p.2]
def Bg(l:List (Int × Int)):List ak:=(l.map Xw).flatten
theorem axU(l:List (Int × Int))(p:Int × Int):Bg (l++ [p])=Bg l++Xw p:=by simp[Bg]
theorem axV:(aa.info? 76).map (λi=>(i.zero,i.size,i.bytes))=N (N (aD #[C D 0,C D 0]),2,16):=by kernel_rfl
def mU(l:List (Int × Int))(ks:List Int):List (Int × Int):=(ks.map λc=>(c,dX 0 l c)).filter λp=>decide (p.2≠0)
def Xx(l:List (Int × Int)):Option (List (Int × Int)):=
 if(nP (l.map (·.1))).all (λc=>bX (dX 0 l c)) then N (mU l (nP (l.map (·.1)))) else J
theorem axW(l:List (Int × Int))(ks:List Int):(mU l ks).length<=ks.length:=by unfold mU;exact ja (List.length_filter_le _ _) (by rw[oz];exact aC _)
theorem ad7(hi:i<ks.length):ks.take (i+1)=ks.take i++ [ks.getD i 0]:=by rw[sD hi];congr 1;simp[dO,hi]
theorem axX(l:List (Int × Int))(hi:i<ks.length)(h:dX 0 l (ks.getD i 0)≠0):mU l (ks.take (i+1))=mU l (ks.take i)++ [(ks.getD i 0,dX 0 l (ks.getD i 0))]:=by rw[ad7 hi];unfold mU;rw[oM,List.filter_append];congr 1;simp only[kE,List.map_nil];rw[List.filter_cons_of_pos CB];rfl
theorem axY(l:List (Int × Int))(hi:i<ks.length)(h:dX 0 l (ks.getD i 0)=0):mU l (ks.take (i+1))=mU l (ks.take i):=by rw[ad7 hi];unfold mU;rw[oM,List.filter_append];simp only[kE,List.map_nil];rw[List.filter_cons_of_neg CB];simp
theorem axZ{p:Int->Bool}(hi:i<ks.length)(h:(ks.take i).all p=Z)(h1:p (ks.getD i 0)=Z):(ks.take (i+1)).all p=Z:=by rw[ad7 hi,List.all_append,h];simp only[zh,List.all_nil,h1];rfl
theorem ax0{p:Int->Bool}(hi:i<ks.length)(h1:p (ks.getD i 0)=X):ks.all p=X:=by rw[List.all_eq_false];refine⟨ks.getD i 0,?_,by rw[h1];simp⟩;have e:ks.getD i 0=ks[i]:=U2;rw[e];exact rF hi
theorem eD.oks{l:List (Int × Int)}(h:eD mE w b l):∀p,p∈l->mE.ok p.1:=by obtain⟨_,_,_,_,_,_,h,_⟩:=h;exact h
theorem GJ{T:bM}{a b c e a' b' c' d' e':ak}(h:ai w g T #[a,b,c,d,e]):ai (((((w.setCell ⟨g,0,J⟩ a').setCell ⟨g,1,J⟩ b').setCell ⟨g,2,J⟩ c').setCell ⟨g,3,J⟩ d').setCell ⟨g,4,J⟩ e') g T #[a',b',c',d',e']:=by have k:=((((h.bL 0 a').bL 1 b').bL 2 c').bL 3 d').bL 4 e';simpa using k
theorem GK{w0:Y}{a b c e:ak}(h:aj B w0 w)(hB:B<=g):aj B w0 (((((w.setCell ⟨g,0,J⟩ a).setCell ⟨g,1,J⟩ b).setCell ⟨g,2,J⟩ c).setCell ⟨g,3,J⟩ d).setCell ⟨g,4,J⟩ e):=((((h.setCell (p:=⟨g,0,J⟩) hB a).setCell (p:=⟨g,1,J⟩) hB b).setCell (p:=⟨g,2,J⟩) hB c).setCell (p:=⟨g,3,J⟩) hB d).setCell (p:=⟨g,4,J⟩) hB e
theorem aaO{x:Y}{size:Nat}(h:x.ownsRow b e size v n xs)(aY:v.ownBlock≠N g)(u0 u1 u2 u3 u4:ak):(((((x.setCell ⟨g,0,J⟩ u0).setCell ⟨g,1,J⟩ u1).setCell ⟨g,2,J⟩ u2).setCell ⟨g,3,J⟩ u3).setCell ⟨g,4,J⟩ u4).ownsRow b e size v n xs:=mO (a:=⟨g,4,J⟩) (mO (a:=⟨g,3,J⟩) (mO (a:=⟨g,2,J⟩) (mO (a:=⟨g,1,J⟩) (mO (a:=⟨g,0,J⟩) h aY u0) aY u1) aY u2) aY u3) aY u4
theorem ad8{q:Nat}{a b c e f:ak}(h:ai w q 74 #[a,b,c,d,e])(h6:tmps.getD 6 undef=aQ q)(h7:tmps.getD 7 undef=f):
  (results f102 tmps).run aa w= .ok (bz #[aD #[a,b,c,d,e],f]) w:=by have c0:=h.cell 0;have c1:=h.cell 1;have c2:=h.cell 2;have c3:=h.cell 3;have c4:=h.cell 4;simp only[iH,iI,iX] at c0 c1 c2 c3 c4;have e6:(tmps[6]?).getD undef=aQ q:=U8;have e7:(tmps[7]?).getD undef=f:=U9;simp[results,results102,go_sem,c0,c1,c2,c3,c4,e6,e7]
theorem alB(ps:List (Int × Int))(az:Int):vK (.fin ps az)=Xx (jH (mh ps) az (jf (dX 0 (mh ps) az+jf (-(vH ps))))):=by
 have e:jH (mh ps) az (jf (dX 0 (mh ps) az+jf (-(vH ps))))=mh (AO ps az):=by
  unfold AO;conv=>rhs;unfold mh
  rw[List.foldl_append];rfl
 rw[e];rfl
def Km(o:Option (List (Int × Int)))(bD gK rl:Int)(B mb pb:Nat)(w:Y)(e:Ending)(w':Y):Prop:=
 (∃v kd e1 o1 r1 c,e=aI (bz #[aD #[C D kd,C D e1,C D o1,C D r1,v],C D c])/\
  (match o with
   |none=>c=2/\v=O J 0 0
   |some ps=>c=0/\w'.ownsRow B 76 2 v ps.length (Bg ps)/\(ps≠ []->kd=10/\e1=bD/\o1=gK/\r1=rl)))/\mG mb pb w w'
theorem mG.xg{a b c:Y}(h:mG mb pb a b)(k:aj a b c):mG mb pb a c:=⟨k.os.trans h.os,k.tape.trans h.tape,k.output.trans h.output,ja h.size k.size,λi hi h1 h2=>(k.block i hi).trans (h.block i hi h1 h2)⟩
theorem But.xg{a b c:Y}(h:But g a b)(k:aj a b c):But g a c:=⟨k.os.trans h.os,k.tape.trans h.tape,k.output.trans h.output,ja h.size k.size,λi hi h1=>(k.block i hi).trans (h.block i hi h1)⟩
theorem mG.drew(mb pb:Nat)(w:Y):mG mb pb w w.drew:=mG.of_below (below_drewN (aN _ _) 1)
theorem ru.QN{m:gF}{gL:ak}(h:ru w mb m other gL pb sum)(hb:aj w w w'):ru w' mb m other gL pb sum:=ai.below h hb (ai.lt h)
theorem alC(mb pb:Nat)(m:gF)(other sum:Int)(gL:ak)(l:List (Int × Int))(w:Y)(hM:ru w mb m other gL pb sum)(hP:eD mE w pb l)(az rl:Int)(Il:iw az=Z)(bH:l.length<=1000000000):
  aF aa 102 #[aQ (N ⟨mb,0,J⟩),C D az,C D rl] w (Km (Xx (jH l az (jf (dX 0 l az+jf (-sum))))) m.s.bD other rl w.heap.size mb pb w):=by
 have pK:=hM.lt;have Bv:=hP.lt;obtain⟨w1,kg⟩:∃w1:Y,w1=w.alloc (ag #[C D 0,C D 0,C D 0,C D 0,O J 0 0] 74):=⟨_,rfl⟩;have ed:w1.heap.size=w.heap.size+1:=YC;have aB:aj w.heap.size w w1:=abp;have K1:af (ai w1 w.heap.size 74 #[C D 0,C D 0,C D 0,C D 0,O J 0 0]):=by show ai _ _ _ _;rw[kg];exact ai.new w _ _
 have zD:=G (hM.QN aB);have jU:=G (hP.below aB Bv);have ni:=G (mG.of_below (mb:=mb) (pb:=pb) aB);have ad9:=G (ad5 mb pb m other sum gL l w1 zD.E jU.E az (jf (-sum)) Il);obtain⟨l2,qM⟩:∃x,x=jH l az (jf (dX 0 l az+jf (-sum))):=⟨_,rfl⟩;have ax1:l2.length<=1000000001:=by rw[qM];have:=ahs l az (jf (dX 0 l az+jf (-sum)));omega
 rw[<-qM] at ad9 |-;have Xv:w1.cell? ⟨mb,10,J⟩=N (C D sum):=zD.E.cell 10;clear hM hP aB qM;go_enter func102,ntmps102;go_upto_region 1 with fail;rw[<-kg];clear kg;go_wp2_with fail;refine ad9.E.mono ?_;rintro e' w2 ⟨rfl,xG,fH,nT⟩;have fw:=nT.size;have K2:=G (K1.E.gK nT I I);have wR:=G xG;have sI:=G fH;have iW:=G (ni.E.trans nT);generalize jf (sum+jf (-sum))=ax2 at*;clear xG fH nT Xv ad9 zD jU ni K1;have x0:w2.cell? ⟨mb,0,J⟩=N (C D m.s.bD):=wR.E.cell 0;have x7:w2.cell? ⟨mb,7,J⟩=N (C D other):=wR.E.cell 7;have KH:=wR.E.lt;go_wp2_with fail;refine iA (S:=λW=>W.cell? ⟨mb,0,J⟩=N (C D m.s.bD)/\W.cell? ⟨mb,7,J⟩=N (C D other)) dh ⟨x0,x7⟩ (λbg=>?_);refine aA 0 ?_;refine aA 1 ?_;refine aA 2 ?_;refine aA 3 ?_;refine aA 4 ?_;refine aA 5 ?_;refine aA 6 ?_;refine aA 7 ?_;refine aA 8 ?_;refine aA 9 ?_;refine aA 10 ?_;refine bK 11 (λK hK=>?_);go_simp;refine bF hK aeZ (λax3=>?_);clear hK K;refine bK 12 (λK hK=>?_);go_simp;refine bF hK aeZ (λax4=>?_);clear hK K;refine gI ?_;clear bg ax3 ax4 x0 x7;obtain⟨q,hq⟩:∃q,q=w2.heap.size:=⟨_,rfl⟩;obtain⟨w3,dF⟩:∃w3:Y,w3=(w2.alloc (ag #[C D 10,C D m.s.bD,C D other,C D rl,O J 0 0] 74)).drew:=⟨_,rfl⟩;have fM:w3.heap.size=w2.heap.size+1:=by rw[dF];simp only[G7,aW]
 have aR:aj w2.heap.size w2 w3:=by rw[dF];exact below_drewN ((aN _ _).alloc (aC _) _) 1
 have Q3:af (ai w3 q 74 #[C D 10,C D m.s.bD,C D other,C D rl,O J 0 0]):=by show ai _ _ _ _;rw[dF,hq];exact(ai.new w2 _ _).drew
 have K3:=G (K2.E.below aR I);have I9:=G (wR.E.QN aR);have Nt:=G (sI.E.below aR I);have nk:=G (iW.E.trans (mG.of_below aR));rw[<-dF,<-hq];have sM:w.heap.size+1<=q:=I;have pg:q<w3.heap.size:=I;have ax5:mb<w3.heap.size:=I;have ax6:pb<w3.heap.size:=I;have hpq:pb<q:=I;clear dF aR K2 wR sI iW KH ed fw fM hq;have y9:w3.cell? ⟨mb,9,J⟩=N (.map (N pb)):=I9.E.cell 9;go_wp2_with fail;refine(axR pb w3).mono ?_;rintro e' w4 ⟨rfl,uw⟩;have rH:w4.heap.size=w3.heap.size+1:=YB;have bu:aj w3.heap.size w3 w4:=afc;have hc4:w4.cell? ⟨w3.heap.size,0,J⟩=N (.map (N pb)):=by rw[uw];exact(ai.new w3 _ _).cell 0
 have JM:=G (Nt.E.below bu I);have Ci:=G (axT w3.heap.size pb l2 w4 I hc4 JM.E I);clear uw hc4;go_wp2_with fail;refine Ci.E.mono ?_;rintro e' w5 ⟨kv,rfl,hkv,cO⟩;have BJ:=cO.size;have xV:aj w3.heap.size w3 w5:=aU bu cO;have K5:=G (K3.E.below xV I);have Q5:=G (Q3.E.below xV I);have Nu:=G (Nt.E.below xV I);have xX:=G (nk.E.trans (mG.of_below xV));have IK:=G (I9.E.QN xV);have NR:q<w5.heap.size:=I;have hr5:w.heap.size<=w5.heap.size:=I;obtain⟨ks,hks⟩:∃ks,ks=nP (l2.map (·.1)):=⟨_,rfl⟩;have dA:ks.length=l2.length:=by rw[hks,(JU _).length_eq,oz]
 rw[<-hks,<-dA] at hkv;have alD:af (∀i,i<ks.length->mE.ok (ks.getD i 0)):=by
  intro i hi;have e:ks.getD i 0=ks[i]:=U2;have hm:ks[i]∈nP (l2.map (·.1)):=by rw[<-hks];exact rF hi
  rw[(JU _).mem_iff,qw] at hm;obtain⟨p,hp,ep⟩:=hm;rw[e,<-ep];exact Nu.E.oks p hp
 have PZ:af (Xx l2=if ks.all (λc=>bX (dX 0 l2 c)) then N (mU l2 ks) else J):=by show _=_;rw[hks];rfl
 have HKV:=G (Fj (b':=q+1) hkv I);obtain⟨Ak,ck,rfl⟩:=eO hkv;obtain⟨i0,gz,fu,gq,fG⟩:=info_parts axV;have qW:ks.length<=1000000001:=I;clear bu cO xV hkv K3 Q3 I9 Nt nk JM Ci y9 hks rH BJ bH ax1 ax5 ax6 pg dA;go_wp2_with fail;go_loopw [38] (λiv wr=>∃(i:Nat) (A:Option aK) (c:Nat),iv=C D i/\i<=ks.length/\(ks.take i).all (λc=>bX (dX 0 l2 c))=Z/\But q w5 wr/\ai wr q 74 #[C D 10,C D m.s.bD,C D other,C D rl,O A (mU l2 (ks.take i)).length c]/\wr.ownsRow w5.heap.size 76 2 (O A (mU l2 (ks.take i)).length c) (mU l2 (ks.take i)).length (Bg (mU l2 (ks.take i)))) (λiv _=>ks.length-(intOf iv).toNat);case atStart=>exact⟨0,J,0,rfl,I,rfl,But.refl _ _,Q5.E,ng _ _ _ _⟩
 obtain⟨i,A,c,rfl,hi,CW,aH,hQ,aV⟩:=hrel;obtain⟨wo,rfl⟩:=dz wr;have eP:=aH.size;have KR:=G (K5.E.but aH I);have bA:=G aH;have HQ:=G hQ;have HO:=G aV;have aea:=G CW;have lU:af (mG mb pb w wo):=xX.E.xg (aH.low I I);have y4:wo.cell? ⟨q,4,J⟩=N (O A (mU l2 (ks.take i)).length c):=hQ.cell 4;have yf:=hQ.frozen;have zf:=KR.E.frozen;have z0:wo.cell? ⟨w.heap.size,0,J⟩=N (C D 0):=KR.E.cell 0;have z1:wo.cell? ⟨w.heap.size,1,J⟩=N (C D 0):=KR.E.cell 1;have z2:wo.cell? ⟨w.heap.size,2,J⟩=N (C D 0):=KR.E.cell 2;have z3:wo.cell? ⟨w.heap.size,3,J⟩=N (C D 0):=KR.E.cell 3;have z4:wo.cell? ⟨w.heap.size,4,J⟩=N (O J 0 0):=KR.E.cell 4;have hcap:=Xt aV;have nC:(mU l2 (ks.take i)).length<=i:=ja (axW _ _) OW;by_cases aO:i<ks.length;case neg=>
  have k3:decide ((i:Int)<(ks.length:Int))=X:=fI;have et:ks.take i=ks:=o7 I;rw[et] at y4;have Xy:af (ai wo q 74 #[C D 10,C D m.s.bD,C D other,C D rl,O A (mU l2 ks).length c]):=by show ai _ _ _ _;have:=HQ.E;rw[et] at this;exact this
  have HO':af (wo.ownsRow w5.heap.size 76 2 (O A (mU l2 ks).length c) (mU l2 ks).length (Bg (mU l2 ks))):=by show World.ownsRow _ _ _ _ _ _ _;have:=HO.E;rw[et] at this;exact this
  have HF':af (Xx l2=N (mU l2 ks)):=by show _=_;have h:=aea.E;rw[et] at h;rw[PZ.E,if_pos h]
  rw[et] at hcap nC;clear CW aH hQ aV HQ HO aea et;generalize mU l2 ks=ps at*;cases og:ps with
  |nil=>rw[og] at y4 HF' HO' Xy hcap nC;clear og;have y4':wo.cell? ⟨q,4,J⟩=N (O A 0 c):=y4;clear y4;go_wp2_with fail;refine eX (ad8 (GJ KR.E) rfl rfl) rfl ⟨⟨_,_,_,_,_,_,rfl,?_⟩,lU.E.xg (GK (aN _ _) (aC _))⟩;rw[HF'.E];exact⟨rfl,ng _ _ _ _,λh=>absurd rfl h⟩
  |cons p0 pr=>
   have ow:0<ps.length:=by rw[og];simp
   have k4:((ps.length:Int)==0)=X:=iO;have d0:wo.cell? ⟨q,0,J⟩=N (C D 10):=Xy.E.cell 0;have d1:wo.cell? ⟨q,1,J⟩=N (C D m.s.bD):=Xy.E.cell 1;have d2:wo.cell? ⟨q,2,J⟩=N (C D other):=Xy.E.cell 2;have d3:wo.cell? ⟨q,3,J⟩=N (C D rl):=Xy.E.cell 3;clear og;go_wp2_with fail;refine eX (ad8 (GJ KR.E) rfl rfl) rfl ⟨⟨_,_,_,_,_,_,rfl,?_⟩,lU.E.xg (GK (aN _ _) (aC _))⟩;rw[HF'.E];exact⟨rfl,aaO (Fj HO'.E hr5) (λe=>by have:=lJ HO'.E _ e;omega) _ _ _ _ _,λ_=>⟨rfl,rfl,rfl,rfl⟩⟩
 have b3:(i:Int)<(ks.length:Int):=I;have hMW:ru wo mb m other gL pb ax2:=ai.but IK.E aH I;have y9:wo.cell? ⟨mb,9,J⟩=N (.map (N pb)):=ai.cell hMW 9;have HPW:=G (Nu.E.grown aH yj);have dI:=G (alD.E i aO);have KV:=Pn HKV.E aH I;obtain⟨g,c',he,_,_⟩:=World.ownsRow.form KV I;injection he with Ja he2 he3;subst Ja;have GL:=World.ownsRow.cellAt KV i I;have hkg:wo.cell? ⟨g,i,J⟩=N (C D (ks.getD i 0)):=by rw[GL];simp[dO,aO]
 have gP:af (bX (dX 0 l2 (ks.getD i 0))=Z->(ks.take (i+1)).all (λc=>bX (dX 0 l2 c))=Z):=λh=>axZ aO CW h;have AZ:af (bX (dX 0 l2 (ks.getD i 0))=X->Xx l2=J):=λh=>by rw[PZ.E,if_neg (by rw[ax0 (p:=λc=>bX (dX 0 l2 c)) aO h];simp)]
 have HFY:af (dX 0 l2 (ks.getD i 0)≠0->mU l2 (ks.take (i+1))=mU l2 (ks.take i)++ [(ks.getD i 0,dX 0 l2 (ks.getD i 0))]):=λh=>axX l2 aO h;have Np:af (dX 0 l2 (ks.getD i 0)=0->mU l2 (ks.take (i+1))=mU l2 (ks.take i)):=λh=>axY l2 aO h;have Ud:af (dX 0 l2 (ks.getD i 0)=dX 0 l2 (ks.getD i 0)):=rfl;clear CW aH hQ aV hMW KV GL he2 he3 HKV alD PZ aea;generalize hcd:ks.getD i 0=cd at*;generalize hgv:dX 0 l2 cd=gv at gP AZ HFY Np;have HGP:=G hgv;have I6:=G (λW=>ad4 gv W);clear hcd hgv Ud;go_wp2_with(at_lookup;refine JR (M:=mE) _ iN _ _ rfl pb l2 cd rfl rfl HPW.E dI.E ?_;rw[show mE.U (dX mE.d l2 cd)=C D gv from congrArg (C D) HGP.E]);refine(I6.E _).mono ?_;rintro e' w6 ⟨rfl,rfl⟩;cases ham:bX gv;case false=>have F:=G (AZ.E ham);clear AZ gP ham;go_wp2_with fail;refine eX (ad8 (GJ KR.E) rfl rfl) rfl ⟨⟨_,_,_,_,_,_,rfl,?_⟩,lU.E.xg (GK (aN _ _) (aC _))⟩;rw[F.E];exact⟨rfl,rfl⟩
 have F:=G (gP.E ham);clear AZ gP ham;by_cases hz:gv=0
 ·have FN:=G (Np.E hz);have k6:(gv !=0)=X:=by simpa using hz
  clear Np HFY hz;go_wp2_with fail;refine⟨⟨i+1,A,c,bR,I,F.E,bA.E,?_,?_⟩,bW⟩;·rw[FN.E];exact HQ.E
  rw[FN.E];exact HO.E
 have FY:=G (HFY.E hz);have k6:(gv !=0)=Z:=by simpa using hz
 clear Np HFY hz;go_wp2_with(at_builtin;refine pX _ rfl (.tmp 55) (.tmp 59) _ rfl w5.heap.size 76 i0 _ 2 16 underlying72 gz fu gq fG rfl I _ (mU l2 (ks.take i)).length (Bg (mU l2 (ks.take i))) rfl (HO.E.alloc _) (wo.heap.size+1) (N ⟨wo.heap.size,0,J⟩) 1 1 [C D cd,C D gv] rfl (mX wo #[C D cd,C D gv] 76 2 rfl) rZ lH I bB ?_;intro v6 w7 dw bU iT;obtain⟨A6,c6,rfl⟩:=eO dw;have fF:aj w5.heap.size wo w7:=((aN wo.heap.size wo).alloc (aC _) _ |>.mono I).grown bU bB (λk hk=>lJ HO.E k hk);have oI:=(HQ.E.below fF NR);have d4:w7.cell? ⟨q,4,J⟩=N (O A (mU l2 (ks.take i)).length c):=oI.cell 4;have df:=oI.frozen;have NK:=G oI;have jk:=G fF;have HO7:=G dw;clear dw bU iT fF oI);have xR:=NK.E.bL 4 (O A6 ((mU l2 (ks.take i)).length+1) c6);have el:(mU l2 (ks.take i)).length+1=(mU l2 (ks.take (i+1))).length:=by rw[FY.E,eB,mf]
 have Mo:=mO (a:=⟨q,4,J⟩) HO7.E (λe=>by have:=lJ HO7.E _ e;simp only[] at this;omega) (O A6 ((mU l2 (ks.take i)).length+1) c6);refine⟨⟨i+1,A6,c6,bR,I,F.E,?_,?_,?_⟩,bW⟩;·exact(bA.E.xg jk.E).set rfl _
 ·rw[<-el];simpa using xR
 rw[<-el,FY.E,axU];exact Mo
structure Uf where
 mb:Nat
 pb:Nat
 sb:Nat
 cb:Nat
 rb:Nat
 q:Nat
 m:gF
 other:Int
 nm:ByteArray
 pr:Bool
 iv:ak
structure Uf.Ok(p:Uf)(w:Y):Prop where
 mb:p.mb<w.heap.size
 pb:p.pb<w.heap.size
 ne:p.mb≠p.pb
 sb:w.heap.size<=p.sb
 cb:w.heap.size<=p.cb
 rb:w.heap.size<=p.rb
 sq:p.sb<p.q
 cq:p.cb<p.q
 rq:p.rb<p.q
 sc:p.cb≠p.sb
 sr:p.rb≠p.sb
structure qo(p:Uf)(w:Y)(dH ls:List Int)(ps:List (Int × Int))(v gL:ak)(W:Y):Prop where
 nH:ru W p.mb p.m p.other gL p.pb (vH ps)
 loc:W.ownsRow p.q 3 1 gL ls.length (ls.map (C D))
 map:eD mE W p.pb (mh ps)
 dH:Ue W p.sb p.q v dH
 two:v.ownBlock=J\/v.ownBlock≠gL.ownBlock
 OC:ai W p.cb 64 #[.string p.nm,p.pr,p.iv]
 uZ:ai W p.rb 74 #[C D 0,C D 0,C D 0,C D 0,O J 0 0]
 gK:mG p.mb p.pb w W
 sz:p.q<=W.heap.size
theorem ax7{size:Nat}(h:w.ownsRow base e size v n xs)(hk:∀k,v.ownBlock=N k->w'.heap[k]?=w.heap[k]?):w'.ownsRow base e size v n xs:=by
 refine⟨h.1,?_⟩;rcases h.2 with hn|⟨g,cap,cur,rfl,hb,hgg,rest⟩;·exact .inl hn
 exact .inr ⟨g,cap,cur,rfl,hb,(hk g rfl).trans hgg,rest⟩
theorem alE(ps:List (Int × Int))(a n:Int):mh (ps++ [(a,n)])=jH (mh ps) a (jf (dX 0 (mh ps) a+n)):=by unfold mh;rw[List.foldl_append];rfl
theorem alF(ps:List (Int × Int))(a n:Int):vH (ps++ [(a,n)])=jf (vH ps+n):=by unfold vH;rw[List.foldl_append];rfl
theorem alG:∀ps:List (Int × Int),(mh ps).length<=ps.length:=by
 intro ps;suffices h:∀(l m:List (Int × Int)),(l.foldl (λm p=>jH m p.1 (jf (dX 0 m p.1+p.2))) m).length<=m.length+l.length by have:=h ps [];unfold mh;simpa using this
 intro l;induction l with
 |nil=>intro m;simp
 |cons x r ih=>intro m;rw[M8];have h1:=ih (jH m x.1 (jf (dX 0 m x.1+x.2)));have h2:=ahs m x.1 (jf (dX 0 m x.1+x.2));rw[iP];omega
section
variable{p:Uf}{w W W':Y}{dH ls:List Int}{ps:List (Int × Int)}{v gL:ak}
theorem qo.below(h:qo p w dH ls ps v gL W)(ho:p.Ok w)(hb:aj W W W'):qo p w dH ls ps v gL W':=by
 have h1:=h.gK.size;have h2:=h.sz;have h3:=ho.sq;have h4:=ho.cq;have h5:=ho.rq;have h6:=ho.mb;have h7:=ho.pb;exact⟨ai.below h.nH hb I,own_below h.loc hb,h.map.below hb I,⟨h.dH.1.below hb I,own_below h.dH.2 hb⟩,h.two,h.OC.below hb I,h.uZ.below hb I,
  h.gK.trans (mG.of_below hb),ja h.sz hb.size⟩
theorem qo.boxed(h:qo p w dH ls ps v gL W)(ho:p.Ok w){s:List Int}(hu:u.ownBlock=J\/u.ownBlock≠gL.ownBlock)(hs:Ue (W.setCell ⟨p.sb,0,J⟩ u) p.sb p.q u s):qo p w s ls ps u gL (W.setCell ⟨p.sb,0,J⟩ u):=by
 have h3:=ho.sb;have h6:=ho.mb;have h7:=ho.pb;have uK:=h.dH.1;refine⟨ai.far h.nH (p:=⟨p.sb,0,J⟩) (show p.mb≠p.sb by omega) u,mO (a:=⟨p.sb,0,J⟩) h.loc (iQ h.loc uK aL) u,h.map.kept (jm _ (⟨p.sb,0,J⟩:aK) _ p.pb (show p.pb≠p.sb by omega)),
  hs,hu,ai.far h.OC (p:=⟨p.sb,0,J⟩) ho.sc u,ai.far h.uZ (p:=⟨p.sb,0,J⟩) ho.sr u,h.gK.xg ((aN _ _).setCell (p:=⟨p.sb,0,J⟩) h3 u),by have:=h.sz;simpa using this⟩
theorem qo.popped(h:qo p w dH ls ps v gL W)(ho:p.Ok w){s:List Int}(hu:u.ownBlock=v.ownBlock)(hs:Ue (W.setCell ⟨p.sb,0,J⟩ u) p.sb p.q u s):qo p w s ls ps u gL (W.setCell ⟨p.sb,0,J⟩ u):=h.boxed ho (by rw[hu];exact h.two) hs
theorem qo.make(ho:p.Ok w){v0:ak}{s:List Int}(nH:ru W p.mb p.m p.other gL p.pb (vH ps))(loc:W.ownsRow p.q 3 1 gL ls.length (ls.map (C D)))(map:eD mE W p.pb (mh ps))(box:ai W p.sb 174 #[v0])
  (row:W.ownsRow p.q 3 1 u s.length (s.reverse.map (C D))) (two:u.ownBlock=J\/u.ownBlock≠gL.ownBlock) (OC:ai W p.cb 64 #[.string p.nm,p.pr,p.iv])
  (uZ:ai W p.rb 74 #[C D 0,C D 0,C D 0,C D 0,O J 0 0]) (gK:mG p.mb p.pb w W) (sz:p.q<=W.heap.size):qo p w s ls ps u gL (W.setCell ⟨p.sb,0,J⟩ u):=by
 have h3:=ho.sb;have h6:=ho.mb;have h7:=ho.pb;have hb:=box.bL 0 u;exact⟨ai.far nH (p:=⟨p.sb,0,J⟩) (show p.mb≠p.sb by omega) u,mO (a:=⟨p.sb,0,J⟩) loc (iQ loc box aL) u,map.kept (jm _ (⟨p.sb,0,J⟩:aK) _ p.pb (show p.pb≠p.sb by omega)),
  ⟨by simpa using hb,mO (a:=⟨p.sb,0,J⟩) row (iQ row box aL) u⟩,two,ai.far OC (p:=⟨p.sb,0,J⟩) ho.sc u,ai.far uZ (p:=⟨p.sb,0,J⟩) ho.sr u,gK.xg ((aN _ _).setCell (p:=⟨p.sb,0,J⟩) h3 u),by simpa using sz⟩
theorem aeb{a b:ak}(h:a.ownBlock=J\/a.ownBlock≠b.ownBlock):b.ownBlock=J\/b.ownBlock≠a.ownBlock:=by
 rcases h with h|h
 ·rw[h];cases hb:b.ownBlock with
  |none=>exact .inl rfl
  |some k=>exact .inr aG
 exact .inr λe=>h e.symm
theorem alH{a b:ak}(h:a.ownBlock=J\/a.ownBlock≠b.ownBlock)(yG:v.ownBlock=a.ownBlock\/v.ownBlock=N n)(hb:∀k,b.ownBlock=N k->k<n):v.ownBlock=J\/v.ownBlock≠b.ownBlock:=by
 rcases yG with e|e;·rw[e];exact h
 exact .inr λz=>by have:=hb n (by rw[<-z,e]);omega
theorem qo.pushed(h:qo p w dH ls ps v gL W)(ho:p.Ok w)(o:Obj){x:Int}{v6:ak}(hg:(W.alloc o).grownBy W' v.ownBlock)(aV:W'.ownsRow p.q 3 1 v6 (dH.length+1) (dH.reverse.map (C D)++ [C D x]))
  (yG:v6.ownBlock=v.ownBlock\/v6.ownBlock=N (W.alloc o).heap.size):qo p w (x::dH) ls ps v6 gL (W'.setCell ⟨p.sb,0,J⟩ v6):=by
 have h1:=h.below ho ((aN W W).alloc (aC _) o);have hr:=lJ h1.dH.2;have a1:=h1.gK.size;have a3:=ho.sq;have a4:=ho.cq;have a5:=ho.rq;have a6:=ho.mb;have a7:=ho.pb;have a8:=ho.sb;have ne:∀k,k<p.q->N k≠v.ownBlock:=λk hk e=>by have:=hr k e.symm;omega
 refine qo.make ho (ai.grown h1.nH hg (ne _ I)) (h1.loc.kept hg (aeb h1.two)) (h1.map.grown hg (ne _ I)) (h1.dH.1.grown hg (ne _ I)) ?_ (alH h1.two yG (Vd h1.loc)) (h1.OC.grown hg (ne _ I)) (h1.uZ.grown hg (ne _ I))
  (h1.gK.xg ⟨hg.os,hg.tape,hg.output,hg.size,λk hk=>hg.block k I (ne k I)⟩) (ja h1.sz hg.size)
 rw[iP,List.reverse_cons,oM];exact aV
theorem ax8{W:Y}{m:gF}{gL:ak}(h:ru W mb m other gL pb sum)(u:ak):ru (W.setCell ⟨mb,8,J⟩ u) mb m other u pb sum:=by have hk:=ai.bL h 8 u;unfold ru;simpa using hk
theorem qo.stored(h:qo p w dH ls ps v gL W)(ho:p.Ok w)(o:Obj){x:Int}{l6:ak}(hg:(W.alloc o).grownBy W' gL.ownBlock)(aV:W'.ownsRow p.q 3 1 l6 (ls.length+1) (ls.map (C D)++ [C D x]))
  (yG:l6.ownBlock=gL.ownBlock\/l6.ownBlock=N (W.alloc o).heap.size):qo p w dH (ls++ [x]) ps v l6 (W'.setCell ⟨p.mb,8,J⟩ l6):=by
 have h1:=h.below ho ((aN W W).alloc (aC _) o);have hr:=lJ h1.loc;have a1:=h1.gK.size;have a2:=h1.sz;have a3:=ho.sq;have a4:=ho.cq;have a5:=ho.rq;have a6:=ho.mb;have a7:=ho.pb;have a8:=ho.sb;have a9:=ho.cb;have a10:=ho.rb;have a11:=ho.ne;have ne:∀k,k<p.q->N k≠gL.ownBlock:=λk hk e=>by have:=hr k e.symm;omega
 have row:W'.ownsRow p.q 3 1 v dH.length (dH.reverse.map (C D)):=h1.dH.2.kept hg h1.two;have ax9:=ai.grown h1.nH hg (ne _ I);have gK:=h1.gK.xg ⟨hg.os,hg.tape,hg.output,hg.size,λk hk=>hg.block k I (ne k I)⟩;refine⟨ax8 ax9 l6,?_,(h1.map.grown hg (ne _ I)).kept (jm _ (⟨p.mb,8,J⟩:aK) _ p.pb (λe=>a11 e.symm)),
  ⟨(h1.dH.1.grown hg (ne _ I)).far (p:=⟨p.mb,8,J⟩) (show p.sb≠p.mb by omega) _,mO (a:=⟨p.mb,8,J⟩) row (λe=>by have:=lJ row _ e;simp only[] at this;omega) _⟩,
  aeb (alH (aeb h1.two) yG (Vd h1.dH.2)),
  (h1.OC.grown hg (ne _ I)).far (p:=⟨p.mb,8,J⟩) (show p.cb≠p.mb by omega) _,(h1.uZ.grown hg (ne _ I)).far (p:=⟨p.mb,8,J⟩) (show p.rb≠p.mb by omega) _,?_,by have:=hg.size;simp only[wh];omega⟩
 ·rw[eB,mf,oM];exact mO (a:=⟨p.mb,8,J⟩) aV (λe=>by have:=lJ aV _ e;simp only[] at this;omega) _
 exact⟨gK.os,gK.tape,gK.output,by simpa using gK.size,λk hk h1 h2=>(jm _ (⟨p.mb,8,J⟩:aK) _ k h1).trans (gK.block k hk h1 h2)⟩
theorem qo.aec(h:qo p w dH ls ps v gL W)(ho:p.Ok w){a n:Int}(hM:ru W' p.mb p.m p.other gL p.pb (jf (vH ps+n)))(hP:eD mE W' p.pb (jH (mh ps) a (jf (dX 0 (mh ps) a+n))))(hO:mG p.mb p.pb W W'):qo p w dH ls (ps++ [(a,n)]) v gL W':=by
 have a2:=h.sz;have a5:=ho.rq;have a6:=ho.mb;have a7:=ho.pb;have a8:=ho.sb;have a9:=ho.cb;have a10:=ho.rb;have kp:∀ {n:Nat} {x:ak} {xs:List ak},W.ownsRow p.q 3 1 x n xs->W'.ownsRow p.q 3 1 x n xs:=λ{n x xs} hx=>by exact ax7 hx λk hk=>hO.block k (Vd hx k hk) (by have:=lJ hx k hk;omega) (by have:=lJ hx k hk;omega)
 exact⟨by rw[alF];exact hM,kp h.loc,by rw[alE];exact hP,⟨h.dH.1.gK hO I I,kp h.dH.2⟩,h.two,h.OC.gK hO I I,h.uZ.gK hO I I,h.gK.trans hO,ja a2 hO.size⟩
end
section
variable{p:Uf}{w W W':Y}{dH ls:List Int}{ps:List (Int × Int)}{v gL:ak}
theorem qo.Mq(h:qo p w dH ls ps v gL W)(ho:p.Ok w){s:List Int}(hu:u.ownBlock=v.ownBlock)(hs:Ue W' p.sb p.q u s)(hw:W'=W.setCell ⟨p.sb,0,J⟩ u):qo p w s ls ps u gL W'/\But p.sb W W':=by subst hw;exact⟨h.popped ho hu hs,(But.refl p.sb W).set rfl u⟩
end
section
variable{M:Mc}{r:List Ins}{a b v v' op:Int}{s dH ls:List Int}{ps:List (Int × Int)}{jE:Out}
theorem rc1:dQ M (⟨1,a,b⟩::r) dH ls ps=dQ M r (a::dH) ls ps:=by simp[dQ]
theorem rc2:dQ M (⟨2,a,b⟩::r) dH ls ps=dQ M r (ls.getD a.toNat 0::dH) ls ps:=by simp[dQ]
theorem rc3(h:dQ M (⟨3,a,b⟩::r) dH ls ps=jE):(match M.rd a b (-1) with|J=>Out.err|N v=>dQ M r (v::dH) ls ps)=jE:=by rw[<-h];cases hz:M.rd a b (-1)<;>simp[dQ,hz]
theorem rc4(h:dQ M (⟨4,a,b⟩::r) dH ls ps=jE):(match M.rd a b M.other with|J=>Out.err|N v=>dQ M r (v::dH) ls ps)=jE:=by rw[<-h];cases hz:M.rd a b M.other<;>simp[dQ,hz]
theorem rc26:dQ M (⟨26,a,b⟩::r) dH ls ps= .fin ps a:=by simp[dQ]
theorem rc7(h:dQ M (⟨7,a,b⟩::r) (v::s) ls ps=jE):(match M.sh v with|J=>Out.err|N u=>dQ M r (u::s) ls ps)=jE:=by rw[<-h];cases hz:M.sh v<;>simp[dQ,hz]
theorem aya:dQ M (⟨23,a,b⟩::r) (v::s) ls ps=dQ M r s (ls++ [v]) ps:=by simp[dQ]
theorem rc24:dQ M (⟨24,a,b⟩::r) (v::s) ls ps=if v=0 then .nil else dQ M r s ls ps:=by simp[dQ]
theorem rc25:dQ M (⟨25,a,b⟩::r) (v::s) ls ps=dQ M r s ls (ps++ [(a,v)]):=by simp[dQ]
theorem rcU(iY:op=5\/op=6\/op=8\/op=9)(h:dQ M (⟨op,a,b⟩::r) (v::s) ls ps=jE):(match iC op a v 0 with|J=>Out.err|N u=>dQ M r (u::s) ls ps)=jE:=by rw[<-h];rcases iY with rfl|rfl|rfl|rfl<;>(simp only[dQ];cases iC _ a v 0<;>simp)
theorem rcB(h1:10<=op)(h2:op<=22)(h:dQ M (⟨op,a,b⟩::r) (v::v'::s) ls ps=jE):(match iC op 0 v' v with|J=>Out.err|N u=>dQ M r (u::s) ls ps)=jE:=by
 rw[<-h];have e:∀k:Int,k<10\/22<k->¬op=k:=λk hk=>by omega
 cases hz:iC op 0 v' v<;>simp[dQ,e,hz]
theorem aed{o:Option Int}{f:Int->Out}(h:(match o with|J=>Out.err|N u=>f u)=jE)(hn:o.isSome=X):jE= .err:=by
 cases o with
 |none=>exact h.symm
 |some u=>cases hn
theorem aee{o:Option Int}{f:Int->Out}(h:(match o with|J=>Out.err|N u=>f u)=jE)(hn:o.isSome=Z):f (o.getD 0)=jE:=by
 cases o with
 |none=>cases hn
 |some u=>exact h
theorem ayb{l:List mP}{f t p:Int}{g:Int->Out}(h:(match Lv l f t p with|J=>Out.err|N u=>g u)=jE)(hn:bX (BX f t p l 0)=X):jE= .err:=by unfold Lv at h;rw[hn] at h;exact h.symm
theorem ayc{l:List mP}{f t p:Int}{g:Int->Out}(h:(match Lv l f t p with|J=>Out.err|N u=>g u)=jE)(hn:bX (BX f t p l 0)=Z):g (BX f t p l 0)=jE:=by unfold Lv at h;rw[hn] at h;exact h
end
theorem Jv{r:List Ins}{op:Int}{d l d' l':Nat}(h:je pr r (d+ji op-dZ op) (l+if op=23 then 1 else 0)=Z)(hd:d+ji op-dZ op=d')(hl:(l+if op=23 then 1 else 0)=l'):je pr r d' l'=Z:=by rw[<-hd,<-hl];exact h
theorem ayd{a b:Int}(h:kI ⟨2,a,b⟩ pr st=Z):0<=a/\a<(st:Int):=by simp[kI] at h;exact h.1
theorem aye{a b:Int}(h:kI ⟨25,a,b⟩ pr st=Z):iw a=Z:=by simp[kI] at h;exact h.1
theorem ayf{a b:Int}(h:kI ⟨26,a,b⟩ pr st=Z):iw a=Z:=by simp[kI] at h;exact h.1
theorem afr{op:Int}(h1:10<=op)(h2:op<=22):dZ op=2:=by unfold dZ;rw[if_neg I,if_pos ⟨h1,h2⟩]
theorem ayg{op:Int}(h1:10<=op)(h2:op<=22):ji op=1:=by unfold ji;rw[if_pos ⟨I,h2⟩]
theorem alI:∀(env:List (List UInt8 × Int)) (n:List UInt8),look env n=dX 0 env n
 | [],n=>rfl
 |p::r,n=>by
  have ih:=alI r n;unfold look at ih |-;unfold dX;rw[List.find?_cons];by_cases h:p.1=n;·rw[if_pos h,beq_iff_eq.2 h]
  ·rw[if_neg h,beq_eq_false_iff_ne.2 h];exact ih
def Xz(M:Mc)(env:List (List UInt8 × Int))(h:lL)(a b:Int):Option Int:=
 if h.kind=1 then N h.value else if h.kind=2 then N (dX 0 env h.name) else if h.kind=21 then M.rd h.from_ h.az (-1)
 else if h.kind=22 then M.rd h.from_ h.az M.other else if h.kind=5 then M.sh a else iC (nY h.kind) h.value a b
theorem ayh(M:Mc)(env:List (List UInt8 × Int))(x:Ex)(ho:eG x=Z)(vs:List Int)(hl:vs.length=x.args.length)(h:∀j,j<vs.length->kQ M env (x.args.getD j ay)=N (vs.getD j 0)):
  kQ M env x=Xz M env x.hd (vs.getD 0 0) (vs.getD 1 0):=by
 cases x with
 |lf d=>have k:=PQ ho;unfold kQ Xz;simp only[Ex.hd,alI];rcases k with k|k|k|k<;>simp[k]
 |un d a=>
  simp only[eG,bq] at ho;have k:=ND ho.1;have h0:=h 0 abN;simp only[Ex.args,Ih] at h0;have h1:vs.getD 1 0=0:=by simp only[Ex.args,iP,pV] at hl;rw[Et,Ot I];rfl
  unfold kQ Xz;rw[h0,h1];simp only[Ex.hd,bZ];rcases k with k|k|k|k|k<;>simp[k]
 |bi d a b=>simp only[eG,bq] at ho;have k:=NF ho.1;have h0:=h 0 abN;have h1:=h 1 abN;simp only[Ex.args,Ih,List.getD_cons_succ] at h0 h1;rw[show(Ex.bi d a b).hd=d from rfl];unfold kQ Xz;rw[h0,h1];simp only[bZ];rw[if_neg (show ¬d.kind=1 by omega),if_neg (show ¬d.kind=2 by omega),if_neg (show ¬d.kind=21 by omega),if_neg (show ¬d.kind=22 by omega),if_neg (show ¬d.kind=5 by omega)]
theorem ayi(M:Mc)(env:List (List UInt8 × Int))(x:Ex)(j:Nat)(hj:j<x.args.length)(h:kQ M env (x.args.getD j ay)=J):kQ M env x=J:=by
 cases x with
 |lf d=>simp[Ex.args] at hj
 |un d a=>simp only[Ex.args,iP,pV] at hj;obtain rfl:j=0:=I;simp only[Ex.args,Ih] at h;unfold kQ;rw[h];rfl
 |bi d a b=>
  simp only[Ex.args,iP,pV] at hj;have hc:j=0\/j=1:=I;rcases hc with rfl|rfl;·simp only[Ex.args,Ih] at h;unfold kQ;rw[h];rfl
  simp only[Ex.args,List.getD_cons_succ,Ih] at h;unfold kQ;rw[h];cases kQ M env a<;>rfl
def Bh(M:Mc):List cZ->List (List UInt8 × Int)->List (Int × Int)->Int->Out
 | [],_,ps,az=> .fin ps az
 |s::r,env,ps,az=>match kQ M env s.expr with
  |none=> .err
  |some v=>if s.kind=1 then Bh M r (jH env s.name v) ps az
    else if s.kind=2 then(if v=0 then .nil else Bh M r env ps az)
    else Bh M r env (ps++ [(s.dM,v)]) az
theorem ayj(M:Mc)(cz:Int->Bool)(pair:Bool)(az:Int):∀(l:List cZ) (env:List (List UInt8 × Int)) (ps:List (Int × Int)),(qX cz pair (env.map (·.1)) l).isSome=Z->Bh M l env ps az=CX M l env ps az:=by
 intro l;induction l with
 |nil=>intro env ps _;rfl
 |cons s r ih=>
  intro env ps h;unfold Bh CX;unfold qX at h;by_cases t:fA (env.map (·.1)) pair s.expr=N (if s.kind=2 then 2 else 1)
  ·rw[if_pos t] at h;cases hv:kQ M env s.expr with
   |none=>rfl
   |some v=>
    dsimp only
    by_cases k1:s.kind=1
    ·rw[if_pos k1,if_pos k1];rw[if_pos k1] at h;by_cases hc:(env.map (·.1)).contains s.name=Z;·rw[if_pos hc] at h;cases h
     rw[if_neg hc] at h;have hn:∀p,p∈env->p.1≠s.name:=λp hp e=>hc (Vq.2 (by rw[<-e];exact List.mem_map_of_mem hp));rw[acz hn];exact ih _ _ (by rw[oM];exact h)
    rw[if_neg k1,if_neg k1];rw[if_neg k1] at h;by_cases k2:s.kind=2
    ·rw[if_pos k2,if_pos k2];rw[if_neg I] at h;by_cases k0:v=0;·rw[if_pos k0,if_pos k0]
     rw[if_neg k0,if_neg k0];exact ih _ _ h
    rw[if_neg k2,if_neg k2];by_cases k3:s.kind=3
    ·rw[if_pos k3] at h;by_cases hf:cz s.dM=Z;·rw[if_pos hf] at h;exact ih _ _ h
     rw[if_neg hf] at h;cases h
    rw[if_neg k3] at h;exact ih _ _ h
  rw[if_neg t] at h;cases h
end Go.Proofs.YtgnflmdpalmejaaGreatDoor
