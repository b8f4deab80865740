/- Lemmas for the proof of WholeRules (the card is in the file ..WholeRulesCard); each lemma names its own conditions. -/
import Derived.Test.YtgnflmdpalmejaaGreatDoorA03
import Derived.Deep.CutBlock
import Derived.Deep.CutRange
import Derived.Laws.IdiomStrings
import Derived.Lib.SlicesCompact
import Derived.WalkMore
namespace Go.Proofs.YtgnflmdpalmejaaGreatDoor
open _root_.Array renaming getElem?_eq_some_iff->JQ,toList_push->Sl
open Bool renaming and_eq_true->bq,and_true->RN,eq_iff_iff->FH,false->X,false_eq_true->lK,true->Z
open Go.Act renaming put->uB
open Go renaming Addr->aK,Calls->aF,MapEntry->Ei,TypeId->bM,Value->ak,World->Y,bodyPost_ret->eX,run_underlying->G8,wp_region_held_drew->iA
open Go.AllReadyH renaming cons->Hg,nil->RL
open Go.Ending renaming returned->aI
open Go.Instr renaming lookup->Jq,mapUpdate->NC
open Go.IntKind renaming i64->D
open Go.Lib renaming compactUpTo->Lt
open Go.MapKept renaming run_getObj_map->KF,run_setObj_map->acA
open Go.Obj renaming cells->ag
open Go.Oper renaming wp->yt
open Go.Region renaming ready->RJ,wanted->sZ
open Go.Result renaming andThen->yl
open Go.RowKit renaming Below->aj
open Go.RowKit.Below renaming heap_alloc->nK,refl->aN
open Go.Value renaming agg->aD,bool->ax,formed->WC,int->C,pointer->aQ,slice->O,string->au,tuple->bz
open Go.World renaming alloc->pJ,cell?_alloc_lt->Rn,cell?_of_block->He,ownsRow_nil->ng,setCell->Bp,size_alloc->aW
open Inhabited renaming default->ay
open Int renaming tdiv->rR
open List renaming all_eq_true->xD,contains_iff_mem->Vq,flatMap_cons->Hq,getD->dO,getD_eq_getElem?_getD->Et,getElem?_cons_succ->iX,getElem?_cons_zero->iI,getElem?_eq_getElem->wu,getElem?_map->xy,getElem?_toArray->iH,getElem_cons_succ->uE,getElem_cons_zero->uD,getElem_mem->rF,getElem_toArray->uC,length_append->eB,length_cons->iP,length_map->oz,length_singleton->mf,map_append->oM,map_cons->kE,map_set->NB,mem_append->pW,mem_cons->jZ,mem_cons_of_mem->F8,mem_cons_self->SL,mem_map->qw,mem_of_find?_eq_some->RU,mem_of_getElem?->Jr,mem_or_eq_of_mem_set->Sm,mem_singleton->lF,nodup_append->PM,not_mem_nil->nJ,range->rQ,setIfInBounds_toArray->pY,set_cons_succ->oP,set_cons_zero->oh,size_toArray->AX,take_of_length_le->o7,take_succ_eq_append_getElem->sD
open List.cons renaming injEq->F6
open Nat renaming eq_zero_or_pos->sw,le_refl->aC,lt_of_lt_of_le->yA,lt_or_ge->jl,zero_le->FI
open Option renaming map_some->qh,none->J,some->N
open Option.some renaming inj->Jt,injEq->kH
open Prod.mk renaming injEq->xL
open Go.Proofs.Tryz renaming prog->aa
open Go.RowKit Go.Lib Go.Proofs.Tryz
set_option maxRecDepth 100000
set_option maxHeartbeats 32000000
set_option linter.unusedVariables false
set_option linter.unusedSimpArgs false
variable{A:Option aK}{B S b c dN g i j jN k n q:Nat}{P:Program}{R:Prop}{T:bM}{W W' w w':Y}{a0 a1 a2 a3 a4 d:ak}{dR:List Int}{es:Array Ei}{o':Obj}{r:di}{s:List UInt8}{xs:List ak}{y:Int}{α:Type}
def BU(n:Int):Bool:=decide (-25567<=n)&&decide (n<=84005)
def AU(y m p:Int):Bool:=decide (1<=m)&&decide (m<=12)&&decide (1<=p)&&decide (p<=120)&&decide (1900<=y)&&decide (y<=2199)&&decide ((12*y+m-1+(p-1))/12<=2199)
structure bE where
 code:Int
 kind:Int
 basis:Int
 parent:Int
deriving DecidableEq
variable{ec gc l:List bE}
instance:Inhabited bE:=⟨⟨0,0,0,0⟩⟩
def gZ(l:List bE)(c:Int):Option bE:=l.find? λa=>a.code==c
theorem aab{c:Int}{a:bE}(h:gZ l c=N a):a.code=c:=by have:=List.find?_some h;simpa using this
theorem Wp{c:Int}{a:bE}(h:gZ l c=N a):a∈l:=RU h
theorem as4{c:Int}(h:gZ l c=J):∀a∈l,a.code≠c:=by intro a ha;have:=List.find?_eq_none.1 h a ha;simpa using this
theorem acS{a:bE}(h:a∈l):∃b,gZ l a.code=N b:=by
 cases e:gZ l a.code with
 |none=>exact absurd rfl (as4 e a h)
 |some b=>exact⟨b,rfl⟩
theorem as5{c:Int}{a:bE}(h:(l.take k).find? (λa=>a.code==c)=J)(hk:k<l.length)(e:(l.getD k ay)=a)(hc:(a.code==c)=Z):gZ l c=N a:=by
 have e2:l=l.take k++a::l.drop (k+1):=by
  have:a=l[k]:=by rw[<-e];simp[dO,hk]
  rw[this,List.getElem_cons_drop,List.take_append_drop]
 unfold gZ;rw[e2,List.find?_append,h];simp[hc]
theorem as6{c:Int}(h:(l.take k).find? (λa=>a.code==c)=J)(hk:k<l.length)(hc:((l.getD k ay).code==c)=X):(l.take (k+1)).find? (λa=>a.code==c)=J:=by rw[sD hk,List.find?_append,h];have e:l.getD k ay=l[k]:=zV;rw[e] at hc;simp[hc]
def aiw(l:List bE):Nat->Int->List Int
 |0,_=> []
 |n+1,c=>match gZ l c with
  |none=> []
  |some a=>c::aiw l n a.parent
def nG(l:List bE):Nat->Int->List Int->List Int × Int
 |0,c,dR=>(dR,c)
 |n+1,c,dR=>match gZ l c with
  |none=>(dR,c)
  |some a=>if dR.contains c then(dR,c) else nG l n a.parent (dR++ [c])
def J3(g:Bool)(a:bE):Bool:=
 decide (1<=a.code)&&decide (a.code<=99999)&&decide (1<=a.kind)&&decide (a.kind<=5)&&(if g then decide (1<=a.basis)&&decide (a.basis<=3) else a.basis==0)
def P5(l:List bE)(a:bE):Bool:=match gZ l a.parent with
 |none=>X
 |some p=>(p.code !=a.code)&&p.kind==a.kind
def NV(l:List bE)(c:Int):bE:=(gZ l ((nG l (l.length+1) c []).1.getLastD 0)).getD ay
def ug(l:List bE)(g:Bool)(a:bE):Bool:=J3 g a&&((a.parent==0)||P5 l a&&(NV l a.code).parent==0)
def as7(l:List bE)(g:Bool)(a:bE):Bool:=J3 g a&&((a.parent==0)||P5 l a)
def Wq(l:List bE)(i:Nat):Bool:=decide (i=0)||decide ((l.getD (i-1) ay).code<(l.getD i ay).code)
def P6(l:List bE)(g:Bool)(i:Nat):Bool:=Wq l i&&ug l g (l.getD i ay)
def aix(l:List bE)(g:Bool)(i:Nat):Bool:=as7 l g (l.getD i ay)&&(Wq l i&&decide ((aiw l (l.length+1) (l.getD i ay).code).length<=l.length))
def mq(l:List bE)(g:Bool):Bool:=(rQ l.length).all (P6 l g)&&decide (l.length<=200)
def aiy(l:List bE)(g:Bool):Bool:=decide (l.length<=200)&&(rQ l.length).all (aix l g)
theorem aiz:∀(xs ys:List Int),xs.Nodup->(∀x∈xs,x∈ys)->xs.length<=ys.length:=by
 intro xs;induction xs with
 |nil=>intro ys _ _;simp
 |cons x r ih=>
  intro ys hn hs;rw[List.nodup_cons] at hn;have hx:=hs x aG;have:=ih (ys.erase x) hn.2 (λz hz=>by
   have aY:z≠x:=by rintro rfl;exact hn.1 hz
   exact(List.mem_erase_of_ne aY).2 (hs z (F8 _ hz)))
  rw[List.length_erase_of_mem hx] at this;have hpos:0<ys.length:=List.length_pos_of_mem hx;simp only[iP];omega
theorem as8(l:List bE):∀n c dR,dR.Nodup->(∀x∈dR,x∈l.map (·.code))->(nG l n c dR).1.Nodup/\(∀x∈(nG l n c dR).1,x∈l.map (·.code)):=by
 intro n;induction n with
 |zero=>intro c dR h1 h2;exact⟨h1,h2⟩
 |succ n ih=>
  intro c dR h1 h2;unfold nG;cases e:gZ l c with
  |none=>exact⟨h1,h2⟩
  |some a=>
   simp only[];cases hc:dR.contains c with
   |true=>simp only[if_true];exact⟨h1,h2⟩
   |false=>
    simp only[lK,if_false];have sO:c∉dR:=U7;refine ih _ _ ?_ ?_;·refine PM.2 ⟨h1,aG,?_⟩;intro x hx y hy;rw[lF] at hy;subst hy;rintro rfl;exact sO hx
    intro x hx;rcases pW.1 hx with hx|hx;·exact h2 x hx
    rw[lF] at hx;subst hx;exact qw.2 ⟨a,Wp e,aab e⟩
theorem as9{c:Int}(h:gZ l c=J):nG l n c dR=(dR,c):=by
 cases n with
 |zero=>rfl
 |succ n=>unfold nG;rw[h]
theorem ata{c:Int}(h:dR.contains c=Z):nG l n c dR=(dR,c):=by
 cases n with
 |zero=>rfl
 |succ n=>
  unfold nG;cases gZ l c with
  |none=>rfl
  |some a=>simp only[h,if_true]
theorem atb{c:Int}{a:bE}(h:gZ l c=N a)(h2:dR.contains c=X):nG l (n+1) c dR=nG l n a.parent (dR++ [c]):=by
 conv=>lhs;unfold nG
 rw[h];simp only[h2,lK,if_false]
theorem atc{c:Int}{a:bE}(h:gZ l c=N a)(h2:dR.contains c=X)(h3:dR.Nodup)(h4:∀x∈dR,x∈l.map (·.code)):
  (dR++ [c]).Nodup/\(∀x∈dR++ [c],x∈l.map (·.code))/\dR.length+1<=l.length:=by
 have sO:c∉dR:=by simpa using h2
 have h5:(dR++ [c]).Nodup:=by refine PM.2 ⟨h3,aG,?_⟩;intro x hx y hy;rw[lF] at hy;subst hy;rintro rfl;exact sO hx
 have h6:∀x∈dR++ [c],x∈l.map (·.code):=by
  intro x hx;rcases pW.1 hx with hx|hx;·exact h4 x hx
  rw[lF] at hx;subst hx;exact qw.2 ⟨a,Wp h,aab h⟩
 refine⟨h5,h6,?_⟩;have:=aiz _ _ h5 h6;rw[oz,eB,mf] at this;exact this
theorem atd(l:List bE):∀n c dR,(dR≠ []->∃t,gZ l (dR.getLastD 0)=N t/\t.parent=c)->((nG l n c dR).1≠ []->∃t,gZ l ((nG l n c dR).1.getLastD 0)=N t/\t.parent=(nG l n c dR).2):=by
 intro n;induction n with
 |zero=>intro c dR h;exact h
 |succ n ih=>
  intro c dR h;unfold nG;cases e:gZ l c with
  |none=>exact h
  |some a=>
   simp only[];cases hc:dR.contains c with
   |true=>simp only[if_true];exact h
   |false=>simp only[lK,if_false];refine ih _ _ λ_=>⟨a,?_,rfl⟩;simpa using e
theorem ate(l:List bE):∀n c dR,∃r,(nG l n c dR).1=dR++r:=by
 intro n;induction n with
 |zero=>intro c dR;exact⟨[],by simp[nG]⟩
 |succ n ih=>
  intro c dR;unfold nG;cases e:gZ l c with
  |none=>exact⟨[],aG⟩
  |some a=>
   simp only[];cases hc:dR.contains c with
   |true=>exact⟨[],aG⟩
   |false=>simp only[lK,if_false];obtain⟨r,hr⟩:=ih a.parent (dR++ [c]);exact⟨[c]++r,by rw[hr];simp⟩
theorem aiA{a:bE}(h:a∈l):(nG l (l.length+1) a.code []).1≠ []:=by
 obtain⟨b,hb⟩:=acS h;obtain⟨r,hr⟩:=ate l l.length b.parent ([]++ [a.code]);have:(nG l (l.length+1) a.code []).1=(nG l l.length b.parent ([]++ [a.code])).1:=by
  show(nG l (l.length+1) a.code []).1=_;conv=>lhs;unfold nG
  rw[hb];rfl
 rw[this,hr];simp
theorem aiB(h:i<l.length):l.getD i ay∈l:=by simp[dO,h]
def C9(l:List cZ):List Int:=(l.filter λs=>decide (s.kind=3)).map (·.dM)
def yJ(r:di):List Int:=r.az::C9 r.stmts
def AV(l:List Int):List Int:=Lt l.toArray l.length
def Lu(r:di):List Int:=AV (nP (yJ r))
theorem atf(d:Array Int)(m:Nat):Lt d (m+1)=Lt d m++(if keeps d m then[d[m]!] else[]):=by unfold Lt;rw[List.range_succ,List.filter_append,oM];congr 1;cases h:keeps d m<;>simp[h]
theorem atg(d:Array Int)(hs:∀i j,i<=j->j<d.size->d[i]!<=d[j]!):∀m,m<=d.size->(Lt d m).Pairwise (· < ·)/\(∀x∈Lt d m,∃j,j<m/\x=d[j]!)/\(∀j,j<m->d[j]!∈Lt d m):=by
 intro m;induction m with
 |zero=>intro _;exact⟨List.Pairwise.nil,(λx h=>by simp[Lt] at h),λj hj=>absurd hj (Nat.not_lt_zero j)⟩
 |succ m ih=>
  intro hm;obtain⟨h1,h2,h3⟩:=ih I;rw[atf];cases hk:keeps d m with
  |false=>
   have hk':¬(m=0\/d[m]! ≠d[m-1]!):=by simpa[keeps] using hk
   have h0:m≠0:=λz=>hk' (.inl z);have he:d[m]! =d[m-1]!:=Decidable.byContradiction λz=>hk' (.inr z);simp only[lK,if_false,List.append_nil];refine⟨h1,(λx hx=>?_),λj hj=>?_⟩;·obtain⟨j,a,b⟩:=h2 x hx;exact⟨j,I,b⟩
   rcases jl j m with a|a;·exact h3 j a
   rw[show j=m from by omega,he];exact h3 (m-1) I
  |true=>
   have hk':m=0\/d[m]! ≠d[m-1]!:=by simpa[keeps] using hk
   simp only[if_true];refine⟨List.pairwise_append.2 ⟨h1,List.pairwise_singleton _ _,λx hx y hy=>?_⟩,(λx hx=>?_),λj hj=>?_⟩
   ·rw[lF.1 hy];obtain⟨j,a,rfl⟩:=h2 x hx;have i1:=hs j (m-1) I I;have i2:=hs (m-1) m I I;rcases hk' with z|z;·omega
    omega
   ·rcases pW.1 hx with a|a;·obtain⟨j,a,b⟩:=h2 x a;exact⟨j,I,b⟩
    exact⟨m,I,lF.1 a⟩
   rcases jl j m with a|a;·exact List.mem_append_left _ (h3 j a)
   rw[show j=m from by omega];exact List.mem_append_right _ SL
theorem aiC(l:List Int):(AV (nP l)).Pairwise (· < ·)/\∀x,x∈AV (nP l)↔x∈l:=by
 have hs:=ahO l;have hg:∀i,i<(nP l).length->(nP l).toArray[i]! =(nP l)[i]?.getD 0:=by intro i hi;simp[getElem!_def,hi]
 obtain⟨h1,h2,h3⟩:=atg (nP l).toArray (by
  intro i j hij hj;have Ik:j<(nP l).length:=hj;rw[hg i I,hg j Ik];rcases jl i j with a|a;·have:=List.pairwise_iff_getElem.1 hs i j I Ik a;simpa[wu Ik,wu (show i<(nP l).length by omega)] using this
  rw[show i=j from by omega];exact Int.le_refl _) (nP l).length (aC _)
 refine⟨h1,λx=>⟨λh=>?_,λh=>?_⟩⟩;·obtain⟨j,a,rfl⟩:=h2 x h;rw[hg j a,wu a];exact(JU l).mem_iff.1 (rF a)
 obtain⟨j,hj,e⟩:=List.getElem_of_mem ((JU l).mem_iff.2 h);have:=h3 j hj;rw[hg j hj,wu hj,e] at this;exact this
theorem aiD(l:List Int):(AV (nP l)).length<=l.length:=by unfold AV Lt;rw[oz];have:=List.length_filter_le (keeps (nP l).toArray) (rQ (nP l).length);have e:=(JU l).length_eq;rw[List.length_range] at this;omega
def uh(c:Int):bE:=⟨c,1,1,0⟩
theorem ath{l:List Int}(h1:l.Pairwise (· < ·))(h2:∀x∈l,iw x=Z)(h3:l.length<=200):mq (l.map uh) Z=Z:=by
 unfold mq;rw[oz,decide_eq_true h3,RN,xD];intro i hi;have zY:=List.mem_range.1 hi;have g:∀k,k<l.length->(l.map uh).getD k ay=uh (l.getD k 0):=by intro k hk;simp[dO,hk]
 unfold P6 Wq;rw[g i zY];have a:=h2 (l.getD i 0) U1;unfold iw at a;rw[bq,decide_eq_true_eq,decide_eq_true_eq] at a;have b:ug (l.map uh) Z (uh (l.getD i 0))=Z:=by unfold ug J3 uh;generalize l.getD i 0=c at a;simp[a.1,a.2]
 rw[b,RN,Bool.or_eq_true,decide_eq_true_eq,decide_eq_true_eq];rcases sw i with z|z;·exact .inl z
 refine .inr ?_;rw[g (i-1) I];have:=List.pairwise_iff_getElem.1 h1 (i-1) i I zY I;simpa[uh,dO,zY,show i-1<l.length from by omega] using this
theorem ati{l:List Int}{x:Int}(h:x∈l):(gZ (l.map uh) x).isSome=Z:=by obtain⟨b,e⟩:=acS (List.mem_map_of_mem (f:=uh) h);have e':gZ (l.map uh) x=N b:=e;rw[e'];rfl
theorem atj(f g:Int->Bool)(pair:Bool):∀(l:List cZ) (ns:List (List UInt8)),(∀x∈C9 l,g x=Z)->(qX f pair ns l).isSome=Z->(qX g pair ns l).isSome=Z:=by
 intro l;induction l with
 |nil=>intro ns _ _;rfl
 |cons s r ih=>
  intro ns hg h;have Gh:∀x∈C9 r,g x=Z:=λx hx=>hg x (by
   unfold C9 at hx |-;rw[List.filter_cons];split;·exact F8 _ hx
   exact hx)
  unfold qX at h |-;by_cases t:fA ns pair s.expr=N (if s.kind=2 then 2 else 1)
  ·rw[if_pos t] at h |-;by_cases k1:s.kind=1
   ·rw[if_pos k1] at h |-;split at h;·cases h
    rename_i c;rw[if_neg c];exact ih _ Gh h
   rw[if_neg k1] at h |-;by_cases k3:s.kind=3
   ·rw[if_pos k3] at h |-;rw[if_pos (hg s.dM (by unfold C9;rw[List.filter_cons,if_pos (by simpa using k3)];exact SL))];split at h;·exact ih _ Gh h
    cases h
   rw[if_neg k3] at h |-;exact ih _ Gh h
  rw[if_neg t] at h;cases h
theorem atl(f g:Int->Bool)(r:di)(hg:∀x∈yJ r,g x=Z)(h:qj f r=Z):qj g r=Z:=by unfold qj at h |-;rw[bq] at h |-;exact⟨atj f g r.pair r.stmts [] (λx hx=>hg x (F8 _ hx)) h.1,hg _ SL⟩
theorem aiE(h:jK r=Z):(∀x∈yJ r,iw x=Z)/\(yJ r).length<=31:=by
 unfold jK at h;rw[bq,bq,bq,decide_eq_true_eq] at h;obtain⟨⟨⟨_,hl⟩,ht⟩,hs⟩:=h;constructor
 ·intro x hx;rcases jZ.1 hx with e|hx;·rw[e];exact ht
  unfold C9 at hx;obtain⟨s,m,rfl⟩:=qw.1 hx;obtain⟨m1,m2⟩:=List.mem_filter.1 m;have k3:s.kind=3:=by simpa using m2
  have o:=xD.1 hs s m1;unfold o5 at o;rw[bq,bq,if_neg I,if_neg I,if_pos k3,bq] at o;exact o.1.1.2
 unfold yJ C9;rw[iP,oz];have:=List.length_filter_le (λs:cZ=>decide (s.kind=3)) r.stmts;omega
theorem atm{f:Int->Bool}(ho:jK r=Z)(hc:qj f r=Z):
  mq ((Lu r).map uh) Z=Z/\qj (λc=>(gZ ((Lu r).map uh) c).isSome) r=Z:=by obtain⟨h1,h2⟩:=aiE ho;obtain⟨h3,h4⟩:=aiC (yJ r);have h5:=aiD (yJ r);exact⟨ath h3 (λx hx=>h1 x ((h4 x).1 hx)) (by unfold Lu;omega),atl f _ r (λx hx=>ati ((h4 x).2 hx)) hc⟩
structure mP where
 entry:Int
 line:Int
 bD:Int
 dM:Int
 partner:Int
 date:Int
 amount:Int
deriving DecidableEq
instance:Inhabited mP:=⟨⟨0,0,0,0,0,0,0⟩⟩
structure lh where
 bD:Int
 full:Bool
 sa:Int
 sb:Int
 items:List mP
instance:Inhabited lh:=⟨⟨0,X,0,1,[]⟩⟩
def kJ(a b:Int):Int × Int:=(rR a (Nat.gcd a.natAbs b.natAbs:Nat),rR b (Nat.gcd a.natAbs b.natAbs:Nat))
def BV(a b:Int):Int:=rR (2*a+if a<0 then -b else b) (2*b)
def J4(a b n:Int):Option Int:=
 if bX n=X then J
 else let x:=kJ ((kJ n 1).1*a) ((kJ n 1).2*b)
  if bX (BV x.1 x.2)=X then J else N (BV x.1 x.2)
def acT(f t p:Int)(x:mP):Bool:=decide (f<=x.dM)&&decide (x.dM<=t)&&(decide (p<0)||decide (x.partner=p))
def BX(f t p:Int)(l:List mP)(n:Int):Int:=l.foldl (λn x=>if acT f t p x then jf (n+x.amount) else n) n
def Lv(l:List mP)(f t p:Int):Option Int:=if bX (BX f t p l 0) then N (BX f t p l 0) else J
def lS(s:lh)(other:Int):Mc:=⟨Lv s.items,J4 s.sa s.sb,other⟩
def vK:Out->Option (List (Int × Int))
 | .bad=>J
 | .err=>J
 | .nil=>N []
 | .fin ps t=>if acD ps t then N (PS ps t) else J
structure jh where
 bD:Int
 gK:Int
 rule:Int
 parts:List (Int × Int)
def Da(out:List jh)(e o k:Int)(ps:List (Int × Int)):List jh:=if ps.isEmpty then out else out++ [⟨e,o,k,ps⟩]
def BZ(f:Int->Option (List (Int × Int)))(e k:Int):List lh->List jh->Option (List jh)
 | [],out=>N out
 |o::r,out=>if o.full=X\/o.bD=e then BZ f e k r out else match f o.bD with
  |none=>J
  |some ps=>BZ f e k r (Da out e o.bD k ps)
def yK(f:lh->Int->Option (List (Int × Int)))(pair:Bool)(l:List lh)(k:Int):List lh->List jh->Option (List jh)
 | [],out=>N out
 |s::r,out=>if s.full=X then yK f pair l k r out
  else if pair=X then(match f s (-1) with
   |none=>J
   |some ps=>yK f pair l k r (Da out s.bD (-1) k ps))
  else match BZ (f s) s.bD k l out with
   |none=>J
   |some mQ=>yK f pair l k r mQ
def vL(f:Nat->lh->Int->Option (List (Int × Int)))(pair:Nat->Bool)(l:List lh):Nat->Nat->List jh->Option (List jh)
 |0,_,out=>N out
 |n+1,k,out=>match yK (f k) (pair k) l k l out with
  |none=>J
  |some mQ=>vL f pair l n (k+1) mQ
theorem acU{f g:Nat->lh->Int->Option (List (Int × Int))}{p q:Nat->Bool}(l:List lh):∀(n k:Nat) (out:List jh),(∀i,i<k+n->f i=g i/\p i=q i)->vL f p l n k out=vL g q l n k out:=by
 intro n;induction n with
 |zero=>intro k out h;rfl
 |succ n ih=>
  intro k out h;obtain⟨e1,e2⟩:=h k I;unfold vL;rw[e1,e2];split;·rfl
  exact ih (k+1) _ (λi hi=>h i I)
section
variable{Q:List (Int × Int)->Prop}
theorem aiF{out:List jh}{e o k:Int}{ps:List (Int × Int)}(h:∀x∈out,Q x.parts)(hp:Q ps):∀x∈Da out e o k ps,Q x.parts:=by
 intro x hx;unfold Da at hx;split at hx;·exact h x hx
 rcases pW.1 hx with a|a;·exact h x a
 rw[lF.1 a];exact hp
theorem atn{f:Int->Option (List (Int × Int))}(e k:Int)(hf:∀o ps,f o=N ps->Q ps):∀(r:List lh) (out res:List jh),(∀x∈out,Q x.parts)->BZ f e k r out=N res->∀x∈res,Q x.parts:=by
 intro r;induction r with
 |nil=>intro out res h e;cases e;exact h
 |cons o r ih=>
  intro out res h e;unfold BZ at e;split at e;·exact ih out res h e
  split at e;·cases e
  rename_i ps og;exact ih _ res (aiF h (hf _ _ og)) e
theorem ato{f:lh->Int->Option (List (Int × Int))}(pair:Bool)(l:List lh)(k:Int)(hf:∀s o ps,f s o=N ps->Q ps):∀(r:List lh) (out res:List jh),(∀x∈out,Q x.parts)->yK f pair l k r out=N res->∀x∈res,Q x.parts:=by
 intro r;induction r with
 |nil=>intro out res h e;cases e;exact h
 |cons s r ih=>
  intro out res h e;unfold yK at e;split at e;·exact ih out res h e
  split at e
  ·split at e;·cases e
   rename_i ps og;exact ih _ res (aiF h (hf _ _ _ og)) e
  split at e;·cases e
  rename_i mQ ho;exact ih _ res (atn _ _ (hf s) _ _ _ h ho) e
theorem atp{f:Nat->lh->Int->Option (List (Int × Int))}{pair:Nat->Bool}(l:List lh):∀(n k:Nat) (out res:List jh),(∀i s o ps,i<k+n->f i s o=N ps->Q ps)->(∀x∈out,Q x.parts)->vL f pair l n k out=N res->∀x∈res,Q x.parts:=by
 intro n;induction n with
 |zero=>intro k out res hf h e;cases e;exact h
 |succ n ih=>
  intro k out res hf h e;unfold vL at e;split at e;·cases e
  rename_i mQ ho;exact ih (k+1) _ res (λi s o ps hi=>hf i s o ps I) (ato _ _ _ (λs o ps=>hf k s o ps I) _ _ _ h ho) e
end
def acV(cs:List (List Ins))(i:Nat)(s:lh)(o:Int):Option (List (Int × Int)):=vK (dQ (lS s o) (cs.getD i []) [] [] [])
def Lx(p:List di)(i:Nat)(s:lh)(o:Int):Option (List (Int × Int)):=vK (CX (lS s o) (p.getD i ay).stmts [] [] (p.getD i ay).az)
theorem Ws(cz:Int->Bool):∀(p:List di) (seen:List (List UInt8)),mg cz seen p=Z->∀r∈p,qj cz r=Z:=by
 intro p;induction p with
 |nil=>intro seen _ r hr;cases hr
 |cons q p ih=>
  intro seen h r hr;unfold mg at h;rw[bq,bq] at h;rcases jZ.1 hr with e|m;·rw[e];exact h.1.2
  exact ih _ h.2 r m
theorem SN{p:List di}(h:i<p.length):p.getD i ay∈p:=by rw[Et,wu h];exact rF h
theorem aiG(h:R:=by rw[Et,xy,Et,wu zY];rfl):R:=h
theorem atq(cz:Int->Bool)(p:List di)(l:List lh)(ho:jT p=Z)(hc:mg cz [] p=Z):
  vL (acV (p.map λr=>wM (cR r))) (λi=>(p.getD i ay).pair) l p.length 0 []=vL (Lx p) (λi=>(p.getD i ay).pair) l p.length 0 []:=by
 refine acU l p.length 0 [] (λi hi=>⟨?_,rfl⟩);have zY:i<p.length:=I;have hm:=SN zY;have h1:=Ws cz p [] hc _ hm;have h2:jK (p.getD i ay)=Z:=by unfold jT at ho;rw[bq] at ho;exact xD.1 ho.1 _ hm
 funext s o;unfold acV Lx;have e:(p.map λr=>wM (cR r)).getD i []=wM (cR (p.getD i ay)):=by exact aiG
 rw[e,arn,ard (lS s o) cz (p.getD i ay) h2 h1]
theorem atr(cz:Int->Bool)(p:List di)(ho:jT p=Z)(hc:mg cz [] p=Z)(i:Nat)(s:lh)(o:Int)(ps:List (Int × Int))(hi:i<p.length)(h:Lx p i s o=N ps):
  (∃k:Int,(ps.map (·.2)).sum=18446744073709551616*k)/\∀q∈ps,cz q.1=Z:=by
 have hm:=SN hi;have h1:=Ws cz p [] hc _ hm;unfold Lx at h;generalize he:CX (lS s o) (p.getD i ay).stmts [] [] (p.getD i ay).az=u at h;cases u with
 |bad=>cases h
 |err=>cases h
 |nil=>cases h;exact⟨⟨0,rfl⟩,λq hq=>by cases hq⟩
 |fin qs t=>
  have h':(if acD qs t=Z then N (PS qs t) else J)=N ps:=h;by_cases hf:acD qs t=Z
  ·rw[if_pos hf] at h';injection h' with e;subst e;unfold qj at h1;rw[bq] at h1;have h2:jK (p.getD i ay)=Z:=by unfold jT at ho;rw[bq] at ho;exact xD.1 ho.1 _ hm
   unfold jK at h2;rw[bq] at h2;obtain⟨h3,h4⟩:=arv (lS s o) cz (p.getD i ay).pair (p.getD i ay).az h1.2 (p.getD i ay).stmts [] [] [] qs t h2.2 h1.1 (λp hp=>absurd hp (nJ)) he;exact⟨arB qs t,arC qs t (λc=>cz c=Z) (by rw[h4];exact h1.2) h3⟩
  rw[if_neg hf] at h';cases h'
def Ca(y:Int):Bool:=y%4==0&&(y%100 !=0||y%400==0)
def LB(m:Int):Int:=if m=2 then 28 else if m=4\/m=6\/m=9\/m=11 then 30 else 31
def mF(y m:Int):Int:=if 1900<=y/\y<=2199/\1<=m/\m<=12 then(if m=2/\Ca y=Z then 29 else LB m) else 0
def lq(y:Int):Int:=365*(y-1)+(y-1)/4-(y-1)/100+(y-1)/400-719162
def lT(y:Int):Nat->Int
 |0=>0
 |k+1=>lT y k+mF y (k+1)
def Iz(y:Int):Int:=if Ca y=Z then 1 else 0
theorem aiQ:Ca y=Z↔y%4=0/\(y%100≠0\/y%400=0):=by unfold Ca;simp only[bq,Bool.or_eq_true,beq_iff_eq,bne_iff_ne,ne_eq]
theorem acY(y:Int):0<=Iz y/\Iz y<=1:=by unfold Iz;split<;>omega
theorem aiR(y:Int):lq (y+1)=lq y+365+Iz y:=by
 unfold Iz lq;by_cases h:Ca y=Z;·rw[if_pos h];have:=aiQ.1 h;omega
 rw[if_neg h];rw[aiQ] at h;omega
theorem aiS(m:Int):28<=LB m/\LB m<=31:=by
 unfold LB;split;·omega
 split<;>omega
theorem aae{m:Int}(hy:1900<=y/\y<=2199)(hm:1<=m/\m<=12):mF y m=if m=2 then 28+Iz y else LB m:=by
 unfold mF Iz;rw[if_pos ⟨hy.1,hy.2,hm.1,hm.2⟩];by_cases h2:m=2
 ·subst h2;cases Ca y;·simp[LB]
  simp
 rw[if_neg (λh=>h2 h.1),if_neg h2]
theorem Wt{m:Int}(h:¬(1900<=y/\y<=2199/\1<=m/\m<=12)):mF y m=0:=by unfold mF;rw[if_neg h]
theorem aaf(y m:Int):0<=mF y m/\mF y m<=31:=by
 by_cases h:1900<=y/\y<=2199/\1<=m/\m<=12;·rw[aae ⟨h.1,h.2.1⟩ h.2.2];have:=acY y;have:=aiS m;split<;>omega
 rw[Wt h];omega
theorem atH{m:Int}(hy:1900<=y/\y<=2199)(hm:1<=m/\m<=12):28<=mF y m:=by rw[aae hy hm];have:=acY y;have:=aiS m;split<;>omega
theorem aiT(y:Int)(k:Nat):0<=lT y k/\lT y k<=31*k:=by
 induction k with
 |zero=>simp[lT]
 |succ k ih=>have:=aaf y (k+1);show 0<=lT y k+mF y (k+1)/\lT y k+mF y (k+1)<=31*((k+1:Nat):Int);omega
theorem atI(hy:1900<=y/\y<=2199):lT y 12=365+Iz y:=by
 have d:∀m:Int,1<=m->m<=12->mF y m=if m=2 then 28+Iz y else LB m:=λm h1 h2=>aae hy ⟨h1,h2⟩
 simp only[lT];rw[d _ I I,d _ I I,d _ I I,d _ I I,d _ I I,d _ I I,d _ I I,d _ I I,d _ I I,d _ I I,d _ I I,d _ I I];simp[LB];omega
def NZ(y m d:Int):Bool:=decide (1<=d)&&decide (d<=mF y m)
def N7(y m d:Int):Int:=lq y+lT y (m-1).toNat+d-1
theorem SQ{m d:Int}:NZ y m d=Z↔1<=d/\d<=mF y m:=by unfold NZ;rw[bq,decide_eq_true_eq,decide_eq_true_eq]
theorem atJ{m d:Int}(h:NZ y m d=Z):(1900<=y/\y<=2199)/\(1<=m/\m<=12)/\1<=d/\d<=31:=by
 have h1:=SQ.1 h;have hb:=aaf y m;by_cases hc:1900<=y/\y<=2199/\1<=m/\m<=12;·exact⟨⟨hc.1,hc.2.1⟩,hc.2.2,h1.1,I⟩
 rw[Wt hc] at h1;omega
theorem atK{a b:Int}(h:a<=b):lq a<=lq b:=by
 obtain⟨n,rfl⟩:∃n:Nat,b=a+n:=⟨(b-a).toNat,I⟩;clear h;induction n with
 |zero=>rw[show a+((0:Nat):Int)=a by omega];exact Int.le_refl _
 |succ n ih=>have e:=aiR (a+n);have:=acY (a+n);rw[show a+((n+1:Nat):Int)=a+n+1 by omega];omega
theorem aiU(h:0<=y)(h':y<=10000): -719600<=lq y/\lq y<=3000000:=by unfold lq;omega
theorem aag(h:R:=by go_enter func182,ntmps182;go_wp2_with fail;go_ret;exact⟨ik F.symm,rfl⟩):R:=h
theorem atL(y:Int)(w:Y)(h0:0<=y)(h1:y<=10000):aF aa 182 #[y] w λe w'=>e=aI (Ca y)/\w=w':=by
 have HL:af (Ca y=(y%4==0&&(y%100 !=0||y%400==0))):=rfl;cases h4:(y%4==0)
 ·have F:af (Ca y=X):=by show _=_;rw[HL.E,h4];rfl
  exact aag
 cases Wu:(y%100 !=0)
 ·cases Wv:(y%400==0)
  ·have F:af (Ca y=X):=by show _=_;rw[HL.E,h4,Wu,Wv];rfl
   have aC4:(y%100==0)=Z:=by rw[bne] at Wu;simpa using Wu
   exact aag
  have F:af (Ca y=Z):=by show _=_;rw[HL.E,h4,Wu,Wv];rfl
  exact aag
 have F:af (Ca y=Z):=by show _=_;rw[HL.E,h4,Wu];rfl
 exact aag
theorem SS(n:Int)(w:Y):aF aa 176 #[n] w λe w'=>e=aI (BU n)/\w=w':=by
 cases d1:decide (-25567<=n)
 ·have F:af (BU n=X):=by show _=_;unfold BU;rw[d1];rfl
  go_enter func176,ntmps176;go_wp2_with fail;go_ret;exact⟨ik F.symm,rfl⟩
 have F:af (BU n=decide (n<=84005)):=by show _=_;unfold BU;rw[d1];rfl
 go_enter func176,ntmps176;go_wp2_with fail;go_ret;exact⟨ik F.symm,rfl⟩
theorem acZ(y:Int)(w:Y)(h0:1<=y)(h1:y<=10000):aF aa 181 #[y] w λe w'=>e=aI (C D (lq y))/\w=w':=by have F:af (lq y=365*(y-1)+(y-1)/4-(y-1)/100+(y-1)/400-719162):=rfl;go_enter func181,ntmps181;go_wp2_with fail;go_ret;exact⟨M9 F.symm,rfl⟩
theorem atM{p:Int->Prop}(h:p 1/\p 2/\p 3/\p 4/\p 5/\p 6/\p 7/\p 8/\p 9/\p 10/\p 11/\p 12):∀m,1<=m->m<=12->p m:=by obtain⟨h1,h2,h3,h4,h5,h6,h7,h8,h9,h10,h11,h12⟩:=h;intro m a b;obtain rfl|rfl|rfl|rfl|rfl|rfl|rfl|rfl|rfl|rfl|rfl|rfl:m=1\/m=2\/m=3\/m=4\/m=5\/m=6\/m=7\/m=8\/m=9\/m=10\/m=11\/m=12:=I;all_goals assumption
theorem aiV(h:R:=by go_enter func114,ntmps114;go_wp2_with fail;refine(HLP _).mono ?_;rintro e wx ⟨rfl,rfl⟩;go_wp2_with fail;go_ret;exact⟨M9 (by rw[F.E,HI.E];rfl),(aN _ w).alloc (aC _) _⟩):R:=h
theorem IC(h:R:=by intro F w;clear HI HLP;go_enter func114,ntmps114;go_wp2_with fail;go_ret;exact⟨M9 ic,(aN _ w).alloc (aC _) _⟩):R:=h
theorem atN(y:Int)(hy:1900<=y/\y<=2199):∀m,1<=m->m<=12->(af (mF y m=if m=2 then 28+Iz y else LB m)->∀w:Y,aF aa 114 #[y,m] w λe w'=>e=aI (C D (mF y m))/\aj w w w'):=by
 have y1:decide (y<1900)=X:=fI;have y2:decide (2199<y)=X:=fI;have HLP:af (∀w,aF aa 182 #[y] w λe w'=>e=aI (Ca y)/\w=w'):=λw=>atL y w I I;have HI:af (Iz y=if Ca y=Z then 1 else 0):=rfl;generalize Ca y=L at*;clear hy;refine atM ?_;refine⟨?_,?_,?_,?_,?_,?_,?_,?_,?_,?_,?_,?_⟩;·exact IC
 ·intro F w;cases L;·exact aiV
  exact aiV
 ·exact IC
 ·exact IC
 ·exact IC
 ·exact IC
 ·exact IC
 ·exact IC
 ·exact IC
 ·exact IC
 ·exact IC
 exact IC
theorem atO(y:Int)(hy:1900<=y/\y<=2199)(m:Int)(h1:1<=m)(h2:m<=12)(w:Y):aF aa 114 #[y,m] w λe w'=>e=aI (C D (mF y m))/\aj w w w':=atN y hy m h1 h2 (aae hy ⟨h1,h2⟩) w
theorem aah(y m:Int)(w:Y):aF aa 114 #[y,m] w λe w'=>e=aI (C D (mF y m))/\aj w w w':=by
 by_cases hc:1900<=y/\y<=2199/\1<=m/\m<=12;·exact atO y ⟨hc.1,hc.2.1⟩ m hc.2.2.1 hc.2.2.2 w
 have F:=G (Wt hc);have hs:(decide (y<1900)=Z)\/(decide (y<1900)=X/\decide (2199<y)=Z)\/(decide (y<1900)=X/\decide (2199<y)=X/\decide (m<1)=Z)\/(decide (y<1900)=X/\decide (2199<y)=X/\decide (m<1)=X/\decide (12<m)=Z):=by simp only[decide_eq_true_eq,decide_eq_false_iff_not];omega
 clear hc;rcases hs with h|⟨h,h'⟩|⟨h,h',h''⟩|⟨h,h',h'',aC5⟩;all_goals
  go_enter func114,ntmps114;go_wp2_with fail;go_ret;exact⟨M9 F.symm,aN _ _⟩
def LC(y m d:Int):ak:=if NZ y m d=Z then bz #[C D (N7 y m d),C D 0] else bz #[C D 0,C D 2]
theorem ac0{m d:Int}(h:¬(1<=d/\d<=mF y m)):LC y m d=bz #[C D 0,C D 2]:=by unfold LC;rw[if_neg (λh'=>h (SQ.1 h'))]
theorem atP{m d:Int}(h:1<=d/\d<=mF y m):LC y m d=bz #[C D (N7 y m d),C D 0]:=by unfold LC;rw[if_pos (SQ.2 h)]
theorem aiW(y:Int)(q:Nat):lT y (q+1)=lT y q+mF y ((q:Int)+1):=rfl
theorem atQ(y m d:Int)(w:Y):aF aa 237 #[y,m,d] w λe w'=>e=aI (LC y m d)/\aj w w w':=by
 by_cases h1:1<=d
 ·have g1:decide (d<1)=X:=by rw[decide_eq_false_iff_not];omega
  have Gi:=G (aah y m w);by_cases h2:d<=mF y m
  ·have F:=G (atP ⟨h1,h2⟩);have g2:decide (mF y m<d)=X:=fI;obtain⟨hy,hm,_,hd31⟩:=atJ (SQ.2 ⟨h1,h2⟩);have hB:=aiU (y:=y) I I;have dW:af (N7 y m d=lq y+lT y (m-1).toNat+d-1):=rfl;have xH:af (∀w,aF aa 181 #[y] w λe w'=>e=aI (C D (lq y))/\w=w'):=λw=>acZ y w I I;generalize mF y m=jV at*;generalize lq y=B at*;have hB1:=hB.1;have hB2:=hB.2;have H9:=hm.1;have xG:=hm.2;clear hB hm hy h2;go_enter func237,ntmps237;go_wp2_with fail;refine Gi.mono ?_;rintro e w1 ⟨rfl,aB⟩;have aM:=G aB;clear aB;go_wp2_with fail;refine(xH _).mono ?_;rintro e wx ⟨rfl,rfl⟩;go_wp2_with fail;go_loopw [8,9] (λn k wr=>∃q:Nat,(q:Int)+1<=m/\k=C D ((q:Int)+1)/\n=C D (B+d-1+lT y q)/\aj w w wr) (λ_ k _=>(m-intOf k).toNat);case atStart=>exact⟨0,I,rfl,by rw[show lT y 0=0 from rfl,Int.add_zero],aM⟩
   obtain⟨q,hq,rfl,rfl,aH⟩:=hrel;have bA:=G aH;clear aH;have qZ:=aiT y q;have hc1:=qZ.1;have wQ:lT y q<=400:=I;have gN:=G (aiW y q);have CV:=aaf y ((q:Int)+1);have pG:=CV.1;have hd2:=CV.2;have HDQ:af (∀w,aF aa 114 #[y,C D ((q:Int)+1)] w λe w'=>e=aI (C D (mF y ((q:Int)+1)))/\aj w w w'):=aah y ((q:Int)+1);clear qZ CV;by_cases aO:(q:Int)+1<m
   ·generalize lT y q=jN at*;generalize mF y ((q:Int)+1)=bf at*;go_wp2_with fail;refine(HDQ _).mono ?_;rintro e w2 ⟨rfl,aJ⟩;have aS:=G (aU bA aJ);clear aJ;go_wp2_with fail;go_roundw;case rel=>exact⟨q+1,I,bR,by rw[gN.E,<-Int.add_assoc],aS⟩
    simp[intOf];omega
   have Fh:af (N7 y m d=B+d-1+lT y q):=by show _=_;rw[dW.E,show(m-1).toNat=q by omega];omega
   generalize lT y q=jN at*;go_wp2_with fail;go_ret2;exact⟨by rw[F.E,Fh.E];rfl,bA⟩
  have F:=G (ac0 (λh=>h2 h.2));have g2:decide (mF y m<d)=Z:=jO;generalize mF y m=jV at*;clear h2;go_enter func237,ntmps237;go_wp2_with fail;refine Gi.mono ?_;rintro e w1 ⟨rfl,aB⟩;go_wp2_with fail;go_ret2;exact⟨ic,aB⟩
 have g1:decide (d<1)=Z:=by rw[decide_eq_true_eq];omega
 have F:=G (ac0 (y:=y) (m:=m) (λh=>h1 h.1));clear h1;go_enter func237,ntmps237;go_wp2_with fail;go_ret2;exact⟨ic,aN _ _⟩
def atS(n:Int)(w:Y)(e:Ending)(w':Y):Prop:=∃y m d:Int,e=aI (bz #[y,m,d,C D 0])/\NZ y m d=Z/\N7 y m d=n/\aj w w w'
theorem atT(n:Int):(0<=n->n.tdiv 366=n/366)/\(n<0->366*n.tdiv 366-366<n/\n<=366*n.tdiv 366):=by
 refine⟨λh=>Int.tdiv_eq_ediv_of_nonneg h,λh=>?_⟩;have e:n.tdiv 366= -((-n)/366):=by have:=Int.neg_tdiv (-n) 366;rw[Int.neg_neg] at this;rw[this,Int.tdiv_eq_ediv_of_nonneg I]
 rw[e];omega
theorem atU{n q:Int}(h1: -25567<=n)(h2:n<=84005)(h:(0<=n/\q=n/366)\/(n<0/\366*q-366<n/\n<=366*q)):1899<=1970+q-2/\1970+q-2<=2199/\(1900<=1970+q-2->lq (1970+q-2)<=n):=by unfold lq;omega
theorem atV{n:Int}(h:lq y<=n)(h2:n<=84005):y<=2199:=by apply Classical.byContradiction;intro hn;have:=atK (a:=2200) (b:=y) I;have e2:lq 2200=84006:=aL;omega
theorem atW{n:Int}(hy:1900<=y/\y<=2199)(h1:n<lq (y+1))(hq:q<=11)(h:mF y ((q:Int)+1)<=n-lq y-lT y q):q+1<=11:=by apply Classical.byContradiction;intro hn;obtain rfl:q=11:=I;have e1:=atI hy;have e2:=aiR y;have e3:lT y 12=lT y 11+mF y (((11:Nat):Int)+1):=rfl;omega
theorem atX{n:Int}(h0:0<=n-lq y-lT y q)(h:¬mF y ((q:Int)+1)<=n-lq y-lT y q):NZ y ((q:Int)+1) (n-lq y-lT y q+1)=Z/\N7 y ((q:Int)+1) (n-lq y-lT y q+1)=n:=by refine⟨SQ.2 ⟨I,I⟩,?_⟩;unfold N7;rw[show((q:Int)+1-1).toNat=q by omega];omega
structure xP where
 name:List UInt8
 code:Int
 kind:Int
 basis:Int
 mapped:Bool
variable{rs:List xP}
instance:Inhabited xP:=⟨⟨[],0,0,0,X⟩⟩
structure N8 where
 c0:Int
 c1:Int
 c2:Int
 c3:Int
 c4:Int
 c5:Int
 c6:Int
 c7:Int
 c8:Int
 c9:Int
 c10:Int
 c11:Int
 c12:Int
 c13:Int
 c14:Int
def uO(r:N8):List xP:= [
 ⟨[105,110,118,101,115,116,109,101,110,116],r.c0,1,3,Z⟩,
 ⟨[103,111,111,100,119,105,108,108],r.c1,1,3,X⟩,
 ⟨[97,115,115,111,99,105,97,116,101,115],r.c2,1,3,X⟩,
 ⟨[105,110,118,101,110,116,111,114,121],r.c3,1,1,Z⟩,
 ⟨[114,101,115,101,114,118,101],r.c4,3,3,X⟩,
 ⟨[109,105,110,111,114,105,116,121],r.c5,3,3,X⟩,
 ⟨[114,101,116,97,105,110,101,100],r.c6,3,3,Z⟩,
 ⟨[97,99,113,117,105,114,101,100],r.c7,3,3,X⟩,
 ⟨[111,119,110,101,114,115],r.c8,3,3,X⟩,
 ⟨[100,105,115,112,111,115,97,108],r.c9,4,2,X⟩,
 ⟨[97,115,115,111,99,105,97,116,101,80,114,111,102,105,116],r.c10,4,2,X⟩,
 ⟨[100,105,118,105,100,101,110,100,115],r.c11,4,2,Z⟩,
 ⟨[109,105,110,111,114,105,116,121,80,114,111,102,105,116],r.c12,5,2,X⟩,
 ⟨[100,105,102,102,101,114,101,110,99,101],r.c13,5,2,X⟩,
 ⟨[109,97,114,103,105,110],r.c14,5,2,X⟩]
theorem ac1(r:N8):(uO r).length=15:=rfl
structure ib where
 zz:Int
 az:Int
 since:Int
deriving DecidableEq
variable{ls:List ib}
instance:Inhabited ib:=⟨⟨0,0,0⟩⟩
def Dc(c:UInt8):Bool:=(decide (97<=c)&&decide (c<=122))||(decide (65<=c)&&decide (c<=90))
def J5(s:List UInt8)(i:Nat):Bool:=Dc (s.getD i 0)||(decide (i≠0)&&((s.getD i 0==45)||(decide (48<=s.getD i 0)&&decide (s.getD i 0<=57))))
def Eu(s:List UInt8):Bool:=(rQ s.length).all (J5 s)&&(decide (1<=s.length)&&decide (s.length<=16))
def P8(s:List UInt8)(i:Nat):Bool:=decide (65<=s.getD i 0)&&decide (s.getD i 0<=90)
def De(s:List UInt8):Bool:=(rQ s.length).all (P8 s)&&(s.length==3)
def uy(a:bE):Bool:=if a.kind=1\/a.kind=2 then(a.basis==1)||(a.basis==3) else if a.kind=3 then a.basis==3 else a.basis==2
def P9(l:List bE)(r:xP):Bool:=match gZ l r.code with
 |none=>X
 |some a=>(a.kind==r.kind)&&(a.basis==r.basis)
def LF(rs:List xP)(k:Nat)(c:Int):Bool:=(rs.take k).any λr=>r.code==c
def SV(l:List bE)(rs:List xP)(k:Nat):Bool:=P9 l (rs.getD k ay)&& !LF rs k (rs.getD k ay).code
def Qa(l:List bE)(rs:List xP):Bool:=(rQ rs.length).all (SV l rs)
def Qb(rs:List xP)(c:Int):Bool:=rs.foldl (λv r=>if r.code=c then !r.mapped else v) X
def zA(ec gc:List bE)(x:ib):Bool:=match gZ ec x.zz,gZ gc x.az with
 |some a,N b=>(a.kind==b.kind)&&BU x.since
 |_,_=>X
def aai(ls:List ib)(k:Nat)(x:ib):Bool:=(ls.take k).any λy=>(y.zz==x.zz)&&(y.since==x.since)
def Ww(ec gc:List bE)(ls:List ib)(k:Nat):Bool:=zA ec gc (ls.getD k ay)&& !aai ls k (ls.getD k ay)
def SX(ec gc:List bE)(ls:List ib):Bool:=(rQ ls.length).all (Ww ec gc ls)
def ui(ec gc:List bE)(ls:List ib):Bool:=mq gc Z&&(mq ec X&&(decide (ls.length<=400)&&SX ec gc ls))
structure J6 where
 name:List UInt8
 cur:List UInt8
 jI:List bE
 links:List ib
 joint:Bool
instance:Inhabited J6:=⟨⟨[],[],[],[],X⟩⟩
structure sP where
 cur:List UInt8
 year:Int
 month:Int
 Cb:Int
 jI:List bE
 dL:N8
 dS:List J6
def yL(g:sP)(e:J6):Bool:=Eu e.name&&(De e.cur&&(ui e.jI g.jI e.links&& !e.links.any λx=>Qb (uO g.dL) x.az))
def LG(es:List J6)(k:Nat)(s:List UInt8):Bool:=(es.take k).any λe=>e.name==s
def N9(g:sP)(k:Nat):Bool:= !LG g.dS k (g.dS.getD k ay).name&&yL g (g.dS.getD k ay)
def sQ(g:sP):Bool:=mq g.jI Z&&(!(g.jI.any λa=> !uy a)&&Qa g.jI (uO g.dL))
def Gj(g:sP):Bool:=decide (1<=g.dS.length)&&(decide (g.dS.length<=12)&& !(g.dS.getD 0 ay).joint)
def sS(g:sP):Bool:=De g.cur&&(AU g.year g.month g.Cb&&(sQ g&&(Gj g&&(rQ g.dS.length).all (N9 g))))
def fU(x:Int):Prop:=(Lit.int .i64 x).wf=Z
theorem Gl{T:Type}[Inhabited T](row:T->List ak)(iF:∀t,(row t).length=S):∀ {ts:List T} {k j:Nat},k<ts.length->j<S->(ts.flatMap row)[k*S+j]?=(row (ts.getD k ay))[j]?:=by
 intro ts;induction ts with
 |nil=>intro k j h;simp at h
 |cons t r ih=>
  intro k j h hj;rw[Hq];cases k with
  |zero=>rw[List.getElem?_append_left (by rw[iF];omega)];simp
  |succ k=>have e:(k+1)*S+j-(row t).length=k*S+j:=abG;rw[List.getElem?_append_right abG,e];have:=ih (k:=k) (j:=j) CB hj;simpa using this
theorem LH{T:Type}(row:T->List ak)(iF:∀t,(row t).length=S)(ts:List T):(ts.flatMap row).length=ts.length*S:=by
 induction ts with
 |nil=>simp
 |cons t r ih=>rw[Hq,eB,ih,iF,iP,Nat.add_mul];omega
theorem nS(a:aK)(n:Nat)(h:n≠0):a.add n=⟨a.block,a.off+n,J⟩:=by unfold Addr.add;rw[if_neg h]
theorem Reads.fV{size:Nat}(h:Reads w B size A n xs)(hB:B<=w.heap.size)(hC:w.heap.size<=jN)(hb:aj jN w w'):Reads w' B size A n xs:=h.keep λ_ hp=>hb.cell I
def IE(x:bE):List ak:= [C D x.code,C D x.kind,C D x.basis,C D x.parent]
def jS(l:List bE):List ak:=l.flatMap IE
theorem aiX(x:bE):(IE x).length=4:=rfl
theorem Qc(h:Reads w B 4 A n (jS l)):l.length=n:=by have:=h.1;unfold jS at this;rw[LH IE aiX] at this;omega
theorem aiY(h:R:=by have g0:=hx 0 I _ rfl;have g1:=hx 1 I _ rfl;have g2:=hx 2 I _ rfl;have g3:=hx 3 I _ rfl;rw[<-mW,nS _ 1 I] at g1;rw[<-mW,nS _ 2 I] at g2;rw[<-mW,nS _ 3 I] at g3;exact⟨ad,rfl,hb,g0,g1,g2,g3⟩):R:=h
theorem Reads.SY(h:Reads w B 4 A n (jS l))(hk:k<n):
  ∃ad,A=N ad/\ad.block<B/\w.cell? (ad.add (k*4))=N (C D (l.getD k ay).code)/\w.cell? ⟨(ad.add (k*4)).block,(ad.add (k*4)).off+1,J⟩=N (C D (l.getD k ay).kind)/\w.cell? ⟨(ad.add (k*4)).block,(ad.add (k*4)).off+2,J⟩=N (C D (l.getD k ay).basis)/\w.cell? ⟨(ad.add (k*4)).block,(ad.add (k*4)).off+3,J⟩=N (C D (l.getD k ay).parent):=by
 have hl:=Qc h;obtain⟨ad,rfl,hb,hc⟩:=h.2 I;have hx:∀j,j<4->∀u,(IE (l.getD k ay))[j]?=N u->w.cell? (ad.add (k*4+j))=N u:=by intro j hj u hu;refine hc _ _ ?_;unfold jS;rw[Gl IE aiX I hj,hu]
 exact aiY
theorem zB(h:ai w g T #[a0,a1,a2,a3]):
  w.cell? ⟨g,0,J⟩=N a0/\w.cell? ⟨g,1,J⟩=N a1/\w.cell? ⟨g,2,J⟩=N a2/\w.cell? ⟨g,3,J⟩=N a3:=⟨h.cell 0,h.cell 1,h.cell 2,h.cell 3⟩
def LJ(x:bE):ak:=aD #[x.code,x.kind,x.basis,x.parent]
def IG(x:ib):List ak:= [C D x.zz,C D x.az,C D x.since]
def Gm(l:List ib):List ak:=l.flatMap IG
theorem aiZ(x:ib):(IG x).length=3:=rfl
theorem ac2{l:List ib}(h:Reads w B 3 A n (Gm l)):l.length=n:=by have:=h.1;unfold Gm at this;rw[LH IG aiZ] at this;omega
theorem ai0(h:R:=by have g0:=hx 0 I _ rfl;have g1:=hx 1 I _ rfl;have g2:=hx 2 I _ rfl;rw[<-mW,nS _ 1 I] at g1;rw[<-mW,nS _ 2 I] at g2;exact⟨ad,rfl,hb,g0,g1,g2⟩):R:=h
theorem Reads.Wx{l:List ib}(h:Reads w B 3 A n (Gm l))(hk:k<n):
  ∃ad,A=N ad/\ad.block<B/\w.cell? (ad.add (k*3))=N (C D (l.getD k ay).zz)/\w.cell? ⟨(ad.add (k*3)).block,(ad.add (k*3)).off+1,J⟩=N (C D (l.getD k ay).az)/\w.cell? ⟨(ad.add (k*3)).block,(ad.add (k*3)).off+2,J⟩=N (C D (l.getD k ay).since):=by
 have hl:=ac2 h;obtain⟨ad,rfl,hb,hc⟩:=h.2 I;have hx:∀j,j<3->∀u,(IG (l.getD k ay))[j]?=N u->w.cell? (ad.add (k*3+j))=N u:=by intro j hj u hu;refine hc _ _ ?_;unfold Gm;rw[Gl IG aiZ I hj,hu]
 exact ai0
theorem S9(h:ai w g T #[a0,a1,a2]):
  w.cell? ⟨g,0,J⟩=N a0/\w.cell? ⟨g,1,J⟩=N a1/\w.cell? ⟨g,2,J⟩=N a2:=⟨h.cell 0,h.cell 1,h.cell 2⟩
def Df(x:ib):ak:=aD #[x.zz,x.az,x.since]
def Wy(x:xP):List ak:= [au ⟨x.name.toArray⟩,C D x.code,C D x.kind,C D x.basis,ax x.mapped]
def Gn(l:List xP):List ak:=l.flatMap Wy
theorem ai1(x:xP):(Wy x).length=5:=rfl
theorem atY{l:List xP}(h:Reads w B 5 A n (Gn l)):l.length=n:=by have:=h.1;unfold Gn at this;rw[LH Wy ai1] at this;omega
theorem ac3(h:R:=by have g0:=hx 0 I _ rfl;have g1:=hx 1 I _ rfl;have g2:=hx 2 I _ rfl;have g3:=hx 3 I _ rfl;have g4:=hx 4 I _ rfl;rw[<-mW,nS _ 1 I] at g1;rw[<-mW,nS _ 2 I] at g2;rw[<-mW,nS _ 3 I] at g3;rw[<-mW,nS _ 4 I] at g4;exact⟨ad,rfl,hb,g0,g1,g2,g3,g4⟩):R:=h
theorem Reads.ai2{l:List xP}(h:Reads w B 5 A n (Gn l))(hk:k<n):
  ∃ad,A=N ad/\ad.block<B/\w.cell? (ad.add (k*5))=N (au ⟨(l.getD k ay).name.toArray⟩)/\w.cell? ⟨(ad.add (k*5)).block,(ad.add (k*5)).off+1,J⟩=N (C D (l.getD k ay).code)/\w.cell? ⟨(ad.add (k*5)).block,(ad.add (k*5)).off+2,J⟩=N (C D (l.getD k ay).kind)/\w.cell? ⟨(ad.add (k*5)).block,(ad.add (k*5)).off+3,J⟩=N (C D (l.getD k ay).basis)/\w.cell? ⟨(ad.add (k*5)).block,(ad.add (k*5)).off+4,J⟩=N (ax (l.getD k ay).mapped):=by
 have hl:=atY h;obtain⟨ad,rfl,hb,hc⟩:=h.2 I;have hx:∀j,j<5->∀u,(Wy (l.getD k ay))[j]?=N u->w.cell? (ad.add (k*5+j))=N u:=by intro j hj u hu;refine hc _ _ ?_;unfold Gn;rw[Gl Wy ai1 I hj,hu]
 exact ac3
theorem aaj(h:ai w g T #[a0,a1,a2,a3,a4]):
  w.cell? ⟨g,0,J⟩=N a0/\w.cell? ⟨g,1,J⟩=N a1/\w.cell? ⟨g,2,J⟩=N a2/\w.cell? ⟨g,3,J⟩=N a3/\w.cell? ⟨g,4,J⟩=N a4:=⟨h.cell 0,h.cell 1,h.cell 2,h.cell 3,h.cell 4⟩
structure pI where
 name:List UInt8
 cur:List UInt8
 Ac:Option aK
 nc:Nat
 cc:Nat
 jI:List bE
 Al:Option aK
 nl:Nat
 cl:Nat
 links:List ib
 joint:Bool
instance:Inhabited pI:=⟨⟨[],[],J,0,0,[],J,0,0,[],X⟩⟩
def pI.p(x:pI):J6:=⟨x.name,x.cur,x.jI,x.links,x.joint⟩
def Cc(x:pI):List ak:= [au ⟨x.name.toArray⟩,au ⟨x.cur.toArray⟩,O x.Ac x.nc x.cc,O x.Al x.nl x.cl,ax x.joint]
def Oa(l:List pI):List ak:=l.flatMap Cc
theorem Ob(x:pI):(Cc x).length=5:=rfl
theorem Oc{l:List pI}(h:Reads w B 5 A n (Oa l)):l.length=n:=by have:=h.1;unfold Oa at this;rw[LH Cc Ob] at this;omega
theorem Reads.Ta{l:List pI}(h:Reads w B 5 A n (Oa l))(hk:k<n):
  ∃ad,A=N ad/\ad.block<B/\w.cell? (ad.add (k*5))=N (au ⟨(l.getD k ay).name.toArray⟩)/\w.cell? ⟨(ad.add (k*5)).block,(ad.add (k*5)).off+1,J⟩=N (au ⟨(l.getD k ay).cur.toArray⟩)/\w.cell? ⟨(ad.add (k*5)).block,(ad.add (k*5)).off+2,J⟩=N (O (l.getD k ay).Ac (l.getD k ay).nc (l.getD k ay).cc)/\w.cell? ⟨(ad.add (k*5)).block,(ad.add (k*5)).off+3,J⟩=N (O (l.getD k ay).Al (l.getD k ay).nl (l.getD k ay).cl)/\w.cell? ⟨(ad.add (k*5)).block,(ad.add (k*5)).off+4,J⟩=N (ax (l.getD k ay).joint):=by
 have hl:=Oc h;obtain⟨ad,rfl,hb,hc⟩:=h.2 I;have hx:∀j,j<5->∀u,(Cc (l.getD k ay))[j]?=N u->w.cell? (ad.add (k*5+j))=N u:=by intro j hj u hu;refine hc _ _ ?_;unfold Oa;rw[Gl Cc Ob I hj,hu]
 exact ac3
theorem Tc(h:ai w g T #[a0,a1,a2,a3,a4]):
  w.cell? ⟨g,0,J⟩=N a0/\w.cell? ⟨g,1,J⟩=N a1/\w.cell? ⟨g,2,J⟩=N a2/\w.cell? ⟨g,3,J⟩=N a3/\w.cell? ⟨g,4,J⟩=N a4:=⟨h.cell 0,h.cell 1,h.cell 2,h.cell 3,h.cell 4⟩
def Gp(x:pI):ak:=aD #[x.name,x.cur,O x.Ac x.nc x.cc,O x.Al x.nl x.cl,x.joint]
def Dh(x:bE):Prop:=fU x.code/\fU x.kind/\fU x.basis/\fU x.parent
def Od(x:ib):Prop:=fU x.zz/\fU x.az/\fU x.since
structure Di(W:Y)(B:Nat)(A:Option aK)(n c:Nat)(l:List bE):Prop where
 rd:Reads W B 4 A n (jS l)
 le:n<=9223372036854775807
 cap:n<=c
 ok:∀x∈l,Dh x
structure Ev(W:Y)(B:Nat)(A:Option aK)(n c:Nat)(l:List ib):Prop where
 rd:Reads W B 3 A n (Gm l)
 le:n<=9223372036854775807
 cap:n<=c
 ok:∀x∈l,Od x
structure Ce(W:Y)(B:Nat)(x:pI):Prop where
 ch:Di W B x.Ac x.nc x.cc x.jI
 li:Ev W B x.Al x.nl x.cl x.links
 nm:x.name.length<=9223372036854775807
 cu:x.cur.length<=9223372036854775807
structure gm where
 cur:List UInt8
 year:Int
 month:Int
 Cb:Int
 Ac:Option aK
 nc:Nat
 cc:Nat
 jI:List bE
 dL:N8
 Ae:Option aK
 ne:Nat
 ce:Nat
 dS:List pI
def gm.p(g:gm):sP:=⟨g.cur,g.year,g.month,g.Cb,g.jI,g.dL,g.dS.map pI.p⟩
def ai3(r:N8):ak:=aD #[r.c0,r.c1,r.c2,r.c3,r.c4,r.c5,r.c6,r.c7,r.c8,r.c9,r.c10,r.c11,r.c12,r.c13,r.c14]
def dx(g:gm):Array ak:=#[g.cur,g.year,g.month,g.Cb,O g.Ac g.nc g.cc,g.dL.c0,g.dL.c1,g.dL.c2,g.dL.c3,g.dL.c4,g.dL.c5,g.dL.c6,g.dL.c7,g.dL.c8,g.dL.c9,g.dL.c10,g.dL.c11,g.dL.c12,g.dL.c13,g.dL.c14,O g.Ae g.ne g.ce]
def J7(g:gm):ak:=aD #[g.cur,g.year,g.month,g.Cb,O g.Ac g.nc g.cc,g.dL.c0,g.dL.c1,g.dL.c2,g.dL.c3,g.dL.c4,g.dL.c5,g.dL.c6,g.dL.c7,g.dL.c8,g.dL.c9,g.dL.c10,g.dL.c11,g.dL.c12,g.dL.c13,g.dL.c14,O g.Ae g.ne g.ce]
structure zC(W:Y)(B:Nat)(g:gm):Prop where
 ch:Di W B g.Ac g.nc g.cc g.jI
 en:Reads W B 5 g.Ae g.ne (Oa g.dS)
 ne:g.ne<=9223372036854775807
 ce:g.ne<=g.ce
 ro:∀x∈uO g.dL,fU x.code
 ok:∀x∈g.dS,Ce W B x
 cu:g.cur.length<=9223372036854775807
section
variable{w w':Y}{B:Nat}
theorem Di.keep(h:Di w B A n c l)(hk:∀p:aK,p.block<B->w'.cell? p=w.cell? p):Di w' B A n c l:=⟨h.rd.keep hk,h.le,h.cap,h.ok⟩
theorem Ev.keep{l:List ib}(h:Ev w B A n c l)(hk:∀p:aK,p.block<B->w'.cell? p=w.cell? p):Ev w' B A n c l:=⟨h.rd.keep hk,h.le,h.cap,h.ok⟩
theorem Ce.keep{x:pI}(h:Ce w B x)(hk:∀p:aK,p.block<B->w'.cell? p=w.cell? p):Ce w' B x:=⟨h.ch.keep hk,h.li.keep hk,h.nm,h.cu⟩
theorem zC.keep{g:gm}(h:zC w B g)(hk:∀p:aK,p.block<B->w'.cell? p=w.cell? p):zC w' B g:=⟨h.ch.keep hk,h.en.keep hk,h.ne,h.ce,h.ro,λx hx=>(h.ok x hx).keep hk,h.cu⟩
theorem Di.low(h:Di w B A n c l)(hB:B<=w.heap.size)(hC:w.heap.size<=jN)(hb:aj jN w w'):Di w' B A n c l:=h.keep λ_ hp=>hb.cell I
theorem Ev.low{l:List ib}(h:Ev w B A n c l)(hB:B<=w.heap.size)(hC:w.heap.size<=jN)(hb:aj jN w w'):Ev w' B A n c l:=h.keep λ_ hp=>hb.cell I
theorem Ce.low{x:pI}(h:Ce w B x)(hB:B<=w.heap.size)(hC:w.heap.size<=jN)(hb:aj jN w w'):Ce w' B x:=h.keep λ_ hp=>hb.cell I
theorem zC.low{g:gm}(h:zC w B g)(hB:B<=w.heap.size)(hC:w.heap.size<=jN)(hb:aj jN w w'):zC w' B g:=h.keep λ_ hp=>hb.cell I
theorem Ev.len{l:List ib}(h:Ev w B A n c l):l.length=n:=ac2 h.rd
end
theorem ac4{a5 a6 a7 a8 a9 a10 a11 a12 a13 a14 a15 a16 a17 a18 a19 a20:ak}(h:ai w g T #[a0,a1,a2,a3,a4,a5,a6,a7,a8,a9,a10,a11,a12,a13,a14,a15,a16,a17,a18,a19,a20]):
  w.cell? ⟨g,0,J⟩=N a0/\w.cell? ⟨g,1,J⟩=N a1/\w.cell? ⟨g,2,J⟩=N a2/\w.cell? ⟨g,3,J⟩=N a3/\w.cell? ⟨g,4,J⟩=N a4/\w.cell? ⟨g,5,J⟩=N a5/\w.cell? ⟨g,6,J⟩=N a6/\w.cell? ⟨g,7,J⟩=N a7/\w.cell? ⟨g,8,J⟩=N a8/\w.cell? ⟨g,9,J⟩=N a9/\w.cell? ⟨g,10,J⟩=N a10/\w.cell? ⟨g,11,J⟩=N a11/\w.cell? ⟨g,12,J⟩=N a12/\w.cell? ⟨g,13,J⟩=N a13/\w.cell? ⟨g,14,J⟩=N a14/\w.cell? ⟨g,15,J⟩=N a15/\w.cell? ⟨g,16,J⟩=N a16/\w.cell? ⟨g,17,J⟩=N a17/\w.cell? ⟨g,18,J⟩=N a18/\w.cell? ⟨g,19,J⟩=N a19/\w.cell? ⟨g,20,J⟩=N a20:=⟨h.cell 0,h.cell 1,h.cell 2,h.cell 3,h.cell 4,h.cell 5,h.cell 6,h.cell 7,h.cell 8,h.cell 9,h.cell 10,h.cell 11,h.cell 12,h.cell 13,h.cell 14,h.cell 15,h.cell 16,h.cell 17,h.cell 18,h.cell 19,h.cell 20⟩
section
open Go.ChangeMaps
open Go.Maps (Keyed)
theorem ac5:laidOutB aa=Z:=by kernel_rfl
structure MK(κ:Type) where
 T:bM
 KT:bM
 V:κ->ak
 ok:κ->Prop
 ht:aa.underlying T=N (.map KT 4)
 law:Keyed aa KT
 inj:∀a b,V a=V b->a=b
 key:∀a,ok a->∃lt,keyOf aa KT (V a)=N lt
section
variable{κ:Type}
def jA(M:MK κ)(w:Y)(b:Nat)(l:List (κ × Bool)):Prop:=∃es dN,w.heap[b]?=N (.map es dN)/\es.toList.map (λe=>(e.key,e.val))=l.map (λp=>(M.V p.1,ax p.2))/\(∀e,e∈es.toList->e.born<dN)/\(es.toList.map (·.born)).Nodup/\(∀p,p∈l->M.ok p.1)/\(l.map (·.1)).Nodup
variable{M:MK κ}
theorem jA.made(w:Y):jA M (w.alloc (.map #[] 0)) w []:=⟨#[],0,(MapKept.heap_alloc w _).1,rfl,aG,aG,aG,aG⟩
theorem jA.lt{l:List (κ × Bool)}(h:jA M w b l):b<w.heap.size:=by obtain⟨es,dN,hb,_⟩:=h;exact(JQ.1 hb).1
theorem jA.kept{l:List (κ × Bool)}(h:jA M w b l)(hk:w'.heap[b]?=w.heap[b]?):jA M w' b l:=by obtain⟨es,dN,hb,r⟩:=h;exact⟨es,dN,hk.trans hb,r⟩
theorem jA.below{l:List (κ × Bool)}(h:jA M w b l)(hb:aj B w w')(hB:b<B):jA M w' b l:=h.kept (hb.block b hB)
theorem jA.drewN{l:List (κ × Bool)}(h:jA M w b l)(n:Nat):jA M (w.drewN n) b l:=h
theorem jA.alloc{l:List (κ × Bool)}(h:jA M w b l)(o:Obj):jA M (w.alloc o) b l:=h.kept (nK w o b h.lt)
theorem jA.grown{l:List (κ × Bool)}{row:Option Nat}(h:jA M w b l)(hg:w.grownBy w' row)(hr:N b≠row):jA M w' b l:=h.kept (hg.block b h.lt hr)
theorem ai4{es:List Ei}{l:List (κ × Bool)}(h:es.map (λe=>(e.key,e.val))=l.map (λp=>(M.V p.1,ax p.2))){e:Ei}(he:es[j]?=N e):∃p,l[j]?=N p/\e.key=M.V p.1/\e.val=ax p.2:=by
 have h1:(es.map (λe=>(e.key,e.val)))[j]?=N (e.key,e.val):=by rw[xy,he];rfl
 rw[h,xy] at h1;cases hp:l[j]? with
 |none=>rw[hp] at h1;cases h1
 |some p=>rw[hp] at h1;simp only[qh,kH,xL] at h1;exact⟨p,rfl,h1.1.symm,h1.2.symm⟩
theorem atZ{es:List Ei}{l:List (κ × Bool)}(h:es.map (λe=>(e.key,e.val))=l.map (λp=>(M.V p.1,ax p.2))){p:κ × Bool}(hp:p∈l):∃e,e∈es/\e.key=M.V p.1:=by have h1:(M.V p.1,ax p.2)∈l.map (λp=>(M.V p.1,ax p.2)):=qw.2 ⟨p,hp,rfl⟩;rw[<-h] at h1;obtain⟨e,he,e1⟩:=qw.1 h1;simp only[xL] at e1;exact⟨e,he,e1.1⟩
theorem aak(o:Obj):w.grownBy (setBlock w b o) (N b):=⟨rfl,rfl,rfl,by simp[setBlock],λk hk aY=>by have qW:b≠k:=λe=>aY MZ;simp[setBlock,Array.getElem?_setIfInBounds_ne qW]⟩
theorem aal(h:w.heap[b]?=N o')(o:Obj):(setBlock w b o).heap[b]?=N o:=by have hb:b<w.heap.size:=(JQ.1 h).1;simp[setBlock,hb]
theorem jA.push{l:List (κ × Bool)}{k:κ}(v:Bool)(hb:w.heap[b]?=N o')(he:es.toList.map (λe=>(e.key,e.val))=l.map (λp=>(M.V p.1,ax p.2)))(fP:∀e,e∈es.toList->e.born<dN)(pz:(es.toList.map (·.born)).Nodup)(aX:∀p,p∈l->M.ok p.1)(iR:(l.map (·.1)).Nodup)(hk:M.ok k)(hnew:∀p,p∈l->p.1≠k):
  jA M (setBlock w b (.map (es.push ⟨M.V k,ax v,dN⟩) (dN+1))) b (l++ [(k,v)]):=by
 refine⟨_,_,aal hb _,?_,?_,?_,?_,?_⟩;·rw[Sl,oM,oM,he];rfl
 ·intro e hm;rw[Sl,pW,lF] at hm;rcases hm with hm|rfl;·have:=fP e hm;omega
  show dN<dN+1;omega
 ·rw[Sl,oM];refine PM.2 ⟨pz,aG,λa ha c hc e1=>?_⟩;simp only[kE,List.map_nil,lF] at hc;obtain⟨x,hx,rfl⟩:=qw.1 ha;have:=fP x hx;omega
 ·intro p hp;rcases pW.1 hp with hp|hp;·exact aX p hp
  rw[lF] at hp;rw[hp];exact hk
 rw[oM];refine PM.2 ⟨iR,aG,λa ha c hc e1=>?_⟩;simp only[kE,List.map_nil,lF] at hc;obtain⟨x,hx,rfl⟩:=qw.1 ha;exact hnew x hx (e1.trans hc)
theorem jA.setAt{l:List (κ × Bool)}{k:κ}(v:Bool){e0:Ei}{p:κ × Bool}(hb:w.heap[b]?=N o')(he:es.toList.map (λe=>(e.key,e.val))=l.map (λp=>(M.V p.1,ax p.2)))(fP:∀e,e∈es.toList->e.born<dN)(pz:(es.toList.map (·.born)).Nodup)(aX:∀p,p∈l->M.ok p.1)(iR:(l.map (·.1)).Nodup)(hk:M.ok k)(hj:es.toList[j]?=N e0)(hkey:e0.key=M.V k)(hp:l[j]?=N p)(qx:p.1=k):
  jA M (setBlock w b (.map (es.modify j λe=> {e with key:=M.V k,val:=ax v}) dN)) b (l.set j (k,v)):=by
 have F9:(es.modify j λe=> {e with key:=M.V k,val:=ax v}).toList=es.toList.set j {e0 with key:=M.V k,val:=ax v}:=by rw[Array.toList_modify,modify_eq_set _ _ _ _ hj]
 refine⟨_,_,aal hb _,?_,?_,?_,?_,?_⟩;·rw[F9,NB,NB,he]
 ·intro e hm;rw[F9] at hm;rcases Sm hm with hm|rfl;·exact fP e hm
  exact fP e0 (Jr hj)
 ·rw[F9,NB];have hself:(es.toList.map (·.born)).set j e0.born=es.toList.map (·.born):=Go.WideElems.set_self _ _ _ (by rw[xy,hj];rfl);show((es.toList.map (·.born)).set j e0.born).Nodup;rw[hself];exact pz
 ·intro q hq;rcases Sm hq with hq|rfl;·exact aX q hq
  exact hk
 rw[NB];have hself:(l.map (·.1)).set j k=l.map (·.1):=Go.WideElems.set_self _ _ _ ae6;show((l.map (·.1)).set j k).Nodup;rw[hself];exact iR
theorem ai5{l:List (κ × Bool)}{k:κ}(he:es.toList.map (λe=>(e.key,e.val))=l.map (λp=>(M.V p.1,ax p.2)))(aX:∀p,p∈l->M.ok p.1)(hk:M.ok k):
  ((Instr.findKey M.KT (M.V k) es.toList).run aa w= .ok J w/\(∀p,p∈l->p.1≠k))\/∃j e p,(Instr.findKey M.KT (M.V k) es.toList).run aa w= .ok (N (j,e.val)) w/\es.toList[j]?=N e/\e.key=M.V k/\l[j]?=N p/\p.1=k/\e.val=ax p.2:=by
 obtain⟨lt,aO⟩:=M.key k hk;have hkeys:∀e,e∈es.toList->∃l,keyOf aa M.KT e.key=N l:=λe hm=>by obtain⟨j,hj⟩:=List.getElem?_of_mem hm;obtain⟨p,hp,h1,_⟩:=ai4 he hj;rw[h1];exact M.key _ (aX p (Jr hp))
 rcases M.law.find w aO es.toList hkeys with⟨h1,h2⟩|⟨j,e,h1,h2,h3⟩;·refine .inl ⟨h1,λp hp e1=>?_⟩;obtain⟨e,hm,h3⟩:=atZ he hp;exact h2 e hm (by rw[h3,e1])
 obtain⟨p,hp,h4,h5⟩:=ai4 he h2;exact .inr ⟨j,e,p,h1,h2,h3,hp,M.inj _ _ (h4.symm.trans h3),h5⟩
end
section
variable{κ:Type}[DecidableEq κ]{M:MK κ}
def lZ:List (κ × Bool)->κ->Bool
 | [],_=>X
 |p::r,k=>if p.1=k then p.2 else lZ r k
def yM:List (κ × Bool)->κ->Bool->List (κ × Bool)
 | [],k,v=> [(k,v)]
 |p::r,k,v=>if p.1=k then(k,v)::r else p::yM r k v
theorem Wz(l:List (κ × Bool))(k k':κ)(v:Bool):lZ (yM l k v) k'=if k=k' then v else lZ l k':=by
 induction l with
 |nil=>simp[yM,lZ]
 |cons p r ih=>
  by_cases h:p.1=k
  ·simp only[yM,if_pos h,lZ];by_cases h2:k=k';·rw[if_pos h2,if_pos h2]
   rw[if_neg h2,if_neg h2,if_neg (by rw[h];exact h2)]
  simp only[yM,if_neg h,lZ];by_cases h2:p.1=k';·rw[if_pos h2,if_pos h2,if_neg (by rintro rfl;exact h h2)]
  rw[if_neg h2,if_neg h2,ih]
theorem at0:∀ {l:List (κ × Bool)} {k:κ},(∀p,p∈l->p.1≠k)->lZ l k=X:=by
 intro l;induction l with
 |nil=>intro k _;rfl
 |cons p r ih=>intro k h;rw[lZ,if_neg (h p aG),ih (λq hq=>h q (F8 _ hq))]
theorem at1:∀ {l:List (κ × Bool)} {k:κ} {j:Nat} {p:κ × Bool},(l.map (·.1)).Nodup->l[j]?=N p->p.1=k->lZ l k=p.2:=by
 intro l;induction l with
 |nil=>intro k j p _ h;simp at h
 |cons q r ih=>
  intro k j p hn h hk;rw[kE,List.nodup_cons] at hn;cases j with
  |zero=>simp only[iI,kH] at h;subst h;rw[lZ,if_pos hk]
  |succ j=>simp only[iX] at h;have aY:q.1≠k:=λe=>hn.1 Yw;rw[lZ,if_neg aY,ih hn.2 h hk]
theorem at5:∀ {l:List (κ × Bool)} {k:κ} {v:Bool},(∀p,p∈l->p.1≠k)->yM l k v=l++ [(k,v)]:=by
 intro l;induction l with
 |nil=>intro k v _;rfl
 |cons p r ih=>intro k v h;rw[yM,if_neg (h p aG),ih (λq hq=>h q (F8 _ hq))];rfl
theorem at6:∀ {l:List (κ × Bool)} {k:κ} {v:Bool} {j:Nat} {p:κ × Bool},(l.map (·.1)).Nodup->l[j]?=N p->p.1=k->yM l k v=l.set j (k,v):=by
 intro l;induction l with
 |nil=>intro k v j p _ h;simp at h
 |cons q r ih=>
  intro k v j p hn h hk;rw[kE,List.nodup_cons] at hn;cases j with
  |zero=>simp only[iI,kH] at h;subst h;rw[yM,if_pos hk];rfl
  |succ j=>simp only[iX] at h;have aY:q.1≠k:=λe=>hn.1 Yw;rw[yM,if_neg aY,ih hn.2 h hk];rfl
theorem ai6(w:Y):(zeroValue 4).run aa w= .ok (ax X) w:=by kernel_rfl
theorem at7{l:List (κ × Bool)}{k:κ}(h:jA M w b l)(hk:M.ok k):(Jq M.T (.map (N b)) (M.V k) X).run aa w= .ok (ax (lZ l k)) w:=by
 obtain⟨es,dN,hb,he,_,_,aX,iR⟩:=h;obtain⟨lt,aO⟩:=M.key k hk;have hc:=M.law.check w es.isEmpty aO;rcases ai5 (w:=w) he aX hk with⟨h1,h2⟩|⟨j,e,p,h1,_,_,h4,h5,h6⟩;·rw[at0 h2];simp[Jq,G8 M.ht,KF hb,hc,h1,yl,ai6]
 rw[at1 iR h4 h5];simp[Jq,G8 M.ht,KF hb,hc,h1,h6,yl,ai6]
theorem ai7(h:R:=by simp[NC,G8 M.ht,KF hb,hc,h1,hj,h3,M.law.stays w aO,acA _ hb,yl,setBlock]):R:=h
theorem ai8(h:R:=by simp[NC,G8 M.ht,KF hb,hc,h1,acA _ hb,yl,setBlock]):R:=h
theorem aua{l:List (κ × Bool)}{k:κ}(v:Bool)(h:jA M w b l)(hk:M.ok k):∃w1,(NC M.T (.map (N b)) (M.V k) (ax v)).run aa w= .ok () w1/\w.grownBy w1 (N b)/\jA M w1 b (yM l k v):=by
 obtain⟨es,dN,hb,he,fP,pz,aX,iR⟩:=h;obtain⟨lt,aO⟩:=M.key k hk;have hc:=M.law.check w X aO;rcases ai5 (w:=w) he aX hk with⟨h1,h2⟩|⟨j,e,p,h1,h2,h3,h4,h5,_⟩
 ·refine⟨setBlock w b (.map (es.push ⟨M.V k,ax v,dN⟩) (dN+1)),?_,aak _,?_⟩;·exact ai8
  rw[at5 h2];exact jA.push v hb he fP pz aX iR hk h2
 have hj:es[j]?=N e:=by simpa using h2
 refine⟨setBlock w b (.map (es.modify j λe=> {e with key:=M.V k,val:=ax v}) dN),?_,aak _,?_⟩;·exact ai7
 rw[at6 iR h4 h5];exact jA.setAt v hb he fP pz aX iR hk h2 h3 h4 h5
end
section
variable{κ:Type}[DecidableEq κ]{M:MK κ}(w:Y){ops:Array Oper}{rest:List Oper}{o:Oper}{a:Act}{K:Act->Y->Prop}{Q:Exit->Act->Y->Prop}
theorem ai9(m x:Operand)(iY:o.op=Op.lookup M.T m x X)(b:Nat)(l:List (κ × Bool))(k:κ)(hm:a.eval m= .map (N b))(hx:a.eval x=M.V k)(h:jA M w b l)(hk:M.ok k)
  (hK:K (a.put o.dst (ax (lZ l k))) w):o.wp aa a w K Q:=by unfold yt;simp[execOp,iY,hm,hx,at7 h hk,yl];exact hK
theorem WA(hg:o.guard=J)(m x:Operand)(iY:o.op=Op.lookup M.T m x X)(b:Nat)(l:List (κ × Bool))(k:κ)(hm:a.eval m= .map (N b))(hx:a.eval x=M.V k)(h:jA M w b l)(hk:M.ok k)
  (hK:wpList aa ops Q rest (a.put o.dst (ax (lZ l k))) w):wpList aa ops Q (o::rest) a w:=wpList_plain hg λ_ yE=>ai9 w m x iY b l k hm hx h hk (yE _ _ hK)
theorem aam(hg:sZ o (yielded ops a.tmps)=Z)(m x:Operand)(iY:o.op=Op.lookup M.T m x X)(b:Nat)(l:List (κ × Bool))(k:κ)(hm:a.eval m= .map (N b))(hx:a.eval x=M.V k)(h:jA M w b l)(hk:M.ok k)
  (hK:wpList aa ops Q rest (a.put o.dst (ax (lZ l k))) w):wpList aa ops Q (o::rest) a w:=BigFrame.wpList_want hg λ_ yE=>ai9 w m x iY b l k hm hx h hk (yE _ _ hK)
theorem aub(m x y:Operand)(iY:o.op=Op.mapUpdate M.T m x y)(b:Nat)(l:List (κ × Bool))(k:κ)(v:Bool)(hm:a.eval m= .map (N b))(hx:a.eval x=M.V k)(hy:a.eval y=ax v)(h:jA M w b l)(hk:M.ok k)
  (hK:∀w',jA M w' b (yM l k v)->w.grownBy w' (N b)->K (a.put o.dst undef) w'):o.wp aa a w K Q:=by obtain⟨w1,gu,hg,H9⟩:=aua v h hk;unfold yt;simp[execOp,iY,hm,hx,hy,gu,yl];exact hK _ H9 hg
theorem WB(hg:o.guard=J)(m x y:Operand)(iY:o.op=Op.mapUpdate M.T m x y)(b:Nat)(l:List (κ × Bool))(k:κ)(v:Bool)(hm:a.eval m= .map (N b))(hx:a.eval x=M.V k)(hy:a.eval y=ax v)(h:jA M w b l)(hk:M.ok k)
  (hK:∀w',jA M w' b (yM l k v)->w.grownBy w' (N b)->wpList aa ops Q rest (a.put o.dst undef) w'):wpList aa ops Q (o::rest) a w:=wpList_plain hg λ_ yE=>aub w m x y iY b l k v hm hx hy h hk λw' h1 h2=>yE _ _ (hK w' h1 h2)
end
end
section
open Go.ChangeMaps
open Go.Maps (Keyed int_keyed string_keyed)
theorem aja{a:Int}(h:fU a):∃lt,keyOf aa 3 (C D a)=N lt:=⟨_,Go.Maps.keyOf_int_mk underlying3 h⟩
theorem ajb{x:List UInt8}(h:x.length<=9223372036854775807):(⟨x.toArray⟩:ByteArray).size<=maxLen:=by
 have e:(⟨x.toArray⟩:ByteArray).size=x.length:=by show x.toArray.size=_;rw[AX]
 rw[e];unfold maxLen;exact h
theorem auc{x:List UInt8}(h:x.length<=9223372036854775807):∃lt,keyOf aa 9 (au ⟨x.toArray⟩)=N lt:=⟨_,Go.WideMaps.keyOf_string_mk underlying9 (ajb h)⟩
theorem aud(a b:Int)(h:C D a=C D b):a=b:=by injection h
theorem aue(a b:List UInt8)(h:au ⟨a.toArray⟩=au ⟨b.toArray⟩):a=b:=by injection h with h;injection h with h;simpa using congrArg Array.toList h
theorem ajc:Keyed aa 3:=int_keyed underlying3
theorem auf:Keyed aa 9:=string_keyed underlying9
def MI:MK Int:=⟨374,3,λx=>C D x,fU,underlying374,ajc,aud,λ_ h=>aja h⟩
def MS:MK (List UInt8):=⟨197,9,λx=>au ⟨x.toArray⟩,λx=>x.length<=9223372036854775807,underlying197,auf,aue,λ_ h=>auc h⟩
theorem aug:(match aa.underlying 226 with|N (.array _ _)|N (.struct _)=>Z|_=>X)=Z:=by rw[underlying226]
theorem auh:(226:bM)<aa.types.size:=of_decide_eq_true dh
theorem aui:Keyed aa 226:=Keyed.of_law (deep_law_laid ac5 (m:=2) I auh dh aug)
theorem ajd:aa.cellsOf 226=3:=by kernel_rfl
theorem ac6:aa.cellsOf 3=1:=by kernel_rfl
theorem auj:∀(m:Nat) (t:bM),P.keyTypeAt m t=Z->P.keyTypeAt (m+1) t=Z:=by
 intro m;induction m with
 |zero=>intro t h;simp[Program.keyTypeAt] at h
 |succ m ih=>
  intro t h;rw[Program.keyTypeAt] at h |-;cases hu:P.underlying t with
  |none=>rw[hu] at h;exact h
  |some k=>
   rw[hu] at h;cases k;all_goals(first|exact h|exact ih _ h|skip)
   simp only[bq,Array.all_eq_true] at h |-;exact⟨⟨λi hi=>⟨(h.1.1 i hi).1,ih _ (h.1.1 i hi).2⟩,h.1.2⟩,h.2⟩
theorem auk{m:Nat}{t:bM}(h:P.keyTypeAt m t=Z)(hmn:m<=n):P.keyTypeAt n t=Z:=by
 induction n with
 |zero=>obtain rfl:m=0:=I;exact h
 |succ n ih=>
  rcases jl n m with h1|h1
  ·obtain rfl:m=n+1:=by omega
   exact h
  exact auj _ _ (ih h1)
theorem aje(h:R:=by have h0:0<aa.types.size:=of_decide_eq_true dh;unfold Program.keyType;generalize aa.types.size=z at h0 |-;exact auk h2 I):R:=h
theorem aul:aa.keyType 226=Z:=by have h2:aa.keyTypeAt 2 226=Z:=dh;exact aje
theorem Qd(d:Nat){x:Int}(h:fU x):aa.keyLits (d+1) 3 [.int .i64 x]=N [.int .i64 x]:=by unfold fU at h;unfold Program.keyLits;rw[underlying3];simp[h]
theorem aum(d:Nat){a b c:Int}(ha:fU a)(hb:fU b)(hc:fU c):aa.keyLits (d+2) 226 [.int .i64 a,.int .i64 b,.int .i64 c]=N [.int .i64 a,.int .i64 b,.int .i64 c]:=by have ka:=Qd d ha;have kb:=Qd d hb;have kc:=Qd d hc;unfold Program.keyLits;rw[underlying226];simp[ka,kb,kc,ajd,ac6]
theorem aun(a b c:Int):WC aa 226 (aD #[a,b,c])=Z:=by unfold WC;simp[underlying226,ajd]
theorem auo{x:ib}(h:Od x):∃lt,keyOf aa 226 (Df x)=N lt:=by obtain⟨ha,hb,hc⟩:=h;obtain⟨n,hn⟩:∃n,aa.types.size+1=n+2:=⟨aa.types.size-1,by have:0<aa.types.size:=of_decide_eq_true dh;omega⟩;refine⟨.string (keyBytes [.int .i64 x.zz,.int .i64 x.az,.int .i64 x.since]),?_⟩;unfold Df keyOf;rw[underlying226];simp only[aul,aun,Bool.and_self,if_true];rw[hn];show((aa.keyLits (n+2) 226 [.int .i64 x.zz,.int .i64 x.az,.int .i64 x.since]).map _)=_;rw[aum n ha hb hc];rfl
theorem aup(a b:ib)(h:Df a=Df b):a=b:=by obtain⟨a1,a2,a3⟩:=a;obtain⟨b1,b2,b3⟩:=b;unfold Df at h;simp only[Value.agg.injEq,Array.mk.injEq,F6,Value.int.injEq,true_and,and_true] at h;obtain⟨rfl,rfl,rfl⟩:=h;rfl
def ML:MK ib:=⟨421,226,Df,Od,underlying421,aui,aup,λ_ h=>auo h⟩
end
def Qe(l:List bE)(c:Int):ak:=match gZ l c with
 |some a=>bz #[aD #[a.code,a.kind,a.basis,a.parent],Z]
 |none=>bz #[aD #[C D 0,C D 0,C D 0,C D 0],X]
theorem J8{c:Int}{a:bE}(h:gZ l c=N a):Qe l c=bz #[aD #[a.code,a.kind,a.basis,a.parent],Z]:=by unfold Qe;rw[h]
theorem LK{c:Int}(h:gZ l c=J):Qe l c=bz #[aD #[C D 0,C D 0,C D 0,C D 0],X]:=by unfold Qe;rw[h]
theorem Lg{a b c a' b' c' d':ak}(h:ai w g T #[a,b,c,d]):ai ((((w.setCell ⟨g,0,J⟩ a').setCell ⟨g,1,J⟩ b').setCell ⟨g,2,J⟩ c').setCell ⟨g,3,J⟩ d') g T #[a',b',c',d']:=by have:=(((h.bL 0 a').bL 1 b').bL 2 c').bL 3 d';simpa using this
theorem Td{w0:Y}{a b c:ak}(h:aj B w0 w)(hB:B<=g):aj B w0 ((((w.setCell ⟨g,0,J⟩ a).setCell ⟨g,1,J⟩ b).setCell ⟨g,2,J⟩ c).setCell ⟨g,3,J⟩ d):=(((h.setCell (p:=⟨g,0,J⟩) hB a).setCell (p:=⟨g,1,J⟩) hB b).setCell (p:=⟨g,2,J⟩) hB c).setCell (p:=⟨g,3,J⟩) hB d
theorem auq{c:Int}(h:(l.take n).find? (λa=>a.code==c)=J)(hl:l.length<=n):gZ l c=J:=by rw[o7 hl] at h;exact h
theorem uP(l:List bE)(A:Option aK)(n c:Nat)(code:Int)(B:Nat)(w:Y)(hr:Reads w B 4 A n (jS l))(hB:B<=w.heap.size)(hn:n<=9223372036854775807):
  aF aa 126 #[O A n c,code] w λe w'=>e=aI (Qe l code)/\aj w w w':=by
 have HL:=G (Qc hr);have HR:=G hr;have aT:=(aN w w).alloc (aC _) (ag #[C D 0,C D 0,C D 0,C D 0] 78);have aP:=G aT;have qV:=G (ai.new w 78 #[C D 0,C D 0,C D 0,C D 0]);clear hr aT;go_enter func126,ntmps126;go_wp2_with fail;go_loopw [10] (λi wr=>∃k:Nat,k<=n/\i=C D k/\(l.take k).find? (λa=>a.code==code)=J/\aj w w wr/\ai wr w 78 #[C D 0,C D 0,C D 0,C D 0]) (λi _=>n-(intOf i).toNat);case atStart=>exact⟨0,I,rfl,rfl,aP,qV⟩
 obtain⟨k,hk,rfl,hd,aH,hkr⟩:=hrel;obtain⟨wo,rfl⟩:=dz wr;have LM:=hkr.lt;have iB:=hkr.frozen;obtain⟨y0,y1,y2,y3⟩:=zB hkr;have HK:=G hkr;have HD:=G hd;clear hd hkr;by_cases aO:k<n
 ·obtain⟨ad,rfl,_,c0,c1,c2,c3⟩:=(HR.fV hB (aC _) aH).SY aO;have HY:af (((l.getD k ay).code==code)=Z->gZ l code=N (l.getD k ay)):=λh=>as5 HD zW rfl h;have HN:af (((l.getD k ay).code==code)=X->(l.take (k+1)).find? (λa=>a.code==code)=J):=λh=>as6 HD zW h;have ed:w.heap.size<=wo.heap.size:=aH.size;generalize l.getD k ay=x at*;obtain⟨x0,x1,x2,x3⟩:=x;simp only[] at c0 c1 c2 c3 HY HN;cases hc:x0==code;·have F:=G (HN hc);clear HY HN HD;go_wp2_with fail;exact⟨⟨k+1,I,bR,F,aH.alloc ed _,HK.alloc _⟩,bW⟩
  have F:=G (J8 (HY hc));clear HY HN HD;go_wp2_with fail;have eH:=(Td (a:=C D x0) (b:=C D x1) (c:=C D x2) (d:=C D x3) aH (aC _)).alloc (by simpa using ed) (ag #[x0,x1,x2,x3] 78);have jM:=(Lg (a':=C D x0) (b':=C D x1) (c':=C D x2) (d':=C D x3) HK).alloc (ag #[x0,x1,x2,x3] 78);generalize pJ _ _=wz at*;obtain⟨z0,z1,z2,z3⟩:=zB jM;refine eX (v:=bz #[aD #[x0,x1,x2,x3],Z]) ?_ rfl ⟨RD,eH⟩;simp[results,results126,go_sem,z0,z1,z2,z3]
 have F:=G (LK (auq HD U5));clear HD;go_wp2_with fail;have eH:=Td (a:=C D 0) (b:=C D 0) (c:=C D 0) (d:=C D 0) aH (aC _);have jM:=Lg (a':=C D 0) (b':=C D 0) (c':=C D 0) (d':=C D 0) HK;generalize Bp _ ⟨w,3,J⟩ _=wz at*;obtain⟨z0,z1,z2,z3⟩:=zB jM;refine eX (v:=bz #[aD #[C D 0,C D 0,C D 0,C D 0],X]) ?_ rfl ⟨RD,eH⟩;simp[results,results126,go_sem,z0,z1,z2,z3]
def ajf:ak->Nat
 |O _ n _=>n
 |_=>0
theorem ac7:(aa.info? 3).map (λi=>(i.zero,i.size,i.bytes))=N (N (C D 0),1,8):=by kernel_rfl
theorem aur(x:Int):∀u∈([C D x]:List ak),u.oneCell'=Z:=by intro u hu;simp at hu;subst hu;rfl
theorem aus(h:∀x∈l,Dh x){c:Int}{a:bE}(hf:gZ l c=N a):fU a.parent:=(h a (Wp hf)).2.2.2
theorem aut(dR:List Int)(c x:Int):(dR++ [c]).contains x=if c=x then Z else dR.contains x:=by
 rw[FH];by_cases h:c=x;·subst h;simp
 rw[if_neg h];simp only[Vq,pW,lF];constructor
 ·rintro(h1|h1);·exact h1
  exact absurd h1.symm h
 exact .inl
theorem own_ne{base size:Nat}{e:bM}{v:ak}(h:w.ownsRow base e size v n xs)(hb:b<base):v.ownBlock=J\/v.ownBlock≠N b:=by right;intro he;have:=lJ h b he;omega
theorem ajg(h:R:=by
  try rw[Exit.noGoto_ret]
  go_ret;refine⟨_,rfl,?_,aM⟩;have e1:P.1=dR:=by rw[<-Te.E,FE.E]
  rw[e1];exact Fj ni I):R:=h
theorem auu(l:List bE)(A:Option aK)(n c:Nat)(code:Int)(B:Nat)(w:Y)(hr:Reads w B 4 A n (jS l))(hB:B<=w.heap.size)(hn:n<=1000)(aX:∀x∈l,Dh x)(hc:fU code):
  aF aa 214 #[O A n c,code] w λe w'=>∃v,e=aI v/\w'.ownsRow w 3 1 v (nG l (n+1) code []).1.length ((nG l (n+1) code []).1.map (C D))/\aj w w w':=by
 obtain⟨i0,gz,fu,gq,fG⟩:=info_parts ac7;have HL:=G (Qc hr);have HR:=G hr;have dI:=G aX;have hm0:=jA.made (M:=MI) w;have Gq:=G hm0;have aT:=(aN w w).alloc (aC _) (.map #[] 0);have aP:=G aT;have lX:=G hc;clear hr aX hm0 aT hc;generalize hP:nG l (n+1) code []=P;have HP:=G hP;clear hP;have zx:= @run_makeMap aa;go_enter func214,ntmps214;go_wp2_with fail;go_step3;go_wp2_with fail;go_step3;go_wp2_with fail;go_loopw [1,5] (λcv out wr=>∃(cc:Int) (dR:List Int) (m:List (Int × Bool)),cv=C D cc/\wr.ownsRow (w.heap.size+1) 3 1 out dR.length (dR.map (C D))/\jA MI wr w m/\(∀x,lZ m x=dR.contains x)/\aj w w wr/\
   dR.Nodup/\(∀x∈dR,x∈l.map (·.code))/\dR.length<=n/\nG l (n+1-dR.length) cc dR=P/\fU cc) (λ_ out _=>n+1-ajf out)
 case atStart=>exact⟨code,[],[],rfl,ng _ _ _ _,Gq,λ_=>rfl,aP,aG,aG,aG,HP,lX⟩
 obtain⟨cc,dR,m,rfl,aV,hm,hg,aH,pz,ig,_,hcp,gT⟩:=hrel;obtain⟨wo,rfl⟩:=dz wr;obtain⟨Ao,co,rfl⟩:=eO aV;have HO:=G aV;have HM:=G hm;have HG:=G hg;have dW:=G pz;have AY:=G ig;have Te:=G hcp;have Au:=G gT;have HF:=G (uP l A n c cc wo wo ((HR.fV hB (aC _) aH).more YZ) (aC _) I);have II:=hm.lt;clear aV hm hg pz ig hcp gT;cases hf:gZ l cc with
 |none=>have F:=G (LK hf);have FE:af (nG l (n+1-dR.length) cc dR=(dR,cc)):=as9 hf;clear hf;go_wp2_with fail;refine HF.mono ?_;rintro e w1 ⟨rfl,aB⟩;rw[F.E];have ni:=G ((own_below HO aB).alloc (ag #[C D 0,C D 0,C D 0,C D 0] 78));have aM:=G ((aU aH aB).alloc OY (ag #[C D 0,C D 0,C D 0,C D 0] 78));clear aB HF;go_wp2_with fail;exact ajg
 |some a=>
  have F:=G (J8 hf);have Tf:=G hf;have HA:=G (aus dI hf);clear hf;obtain⟨a0,a1,a2,a3⟩:=a;simp only[] at F Tf HA;cases hs:dR.contains cc with
  |true=>have FE:af (nG l (n+1-dR.length) cc dR=(dR,cc)):=ata hs;have HS:af (lZ m cc=Z):=(HG cc).trans hs;clear hs;go_wp2_with fail;refine HF.mono ?_;rintro e w1 ⟨rfl,aB⟩;rw[F.E];have ni:=G ((own_below HO aB).alloc (ag #[a0,a1,a2,a3] 78));have zD:=G ((HM.below aB II).alloc (ag #[a0,a1,a2,a3] 78));have aM:=G ((aU aH aB).alloc OY (ag #[a0,a1,a2,a3] 78));clear aB HF;go_wp2_with(at_lookup;refine aam (M:=MI) _ iN _ _ rfl w.heap.size m cc rfl rfl zD Au ?_;rw[HS.E]);exact ajg
  |false=>
   have yB:=G (atc Tf hs dW AY);have HS:af (lZ m cc=X):=(HG cc).trans hs;have ac8:dR.length+1<=n:=by have:=yB.2.2;rw[HL.E] at this;exact this
   have FE:af (nG l (n+1-(dR.length+1)) a3 (dR++ [cc])=P):=by show _=_;have:=Te;rw[show n+1-dR.length=(n+1-(dR.length+1))+1 by omega,atb Tf.E hs] at this;exact this
   clear hs;go_wp2_with fail;refine HF.mono ?_;rintro e w1 ⟨rfl,aB⟩;rw[F.E];have ni:=G ((own_below HO aB).alloc (ag #[a0,a1,a2,a3] 78));have zD:=G ((HM.below aB II).alloc (ag #[a0,a1,a2,a3] 78));have aM:=G ((aU aH aB).alloc OY (ag #[a0,a1,a2,a3] 78));have fw:wo.heap.size<=w1.heap.size:=aB.size;have tY:=G (ai.new w1 78 #[a0,a1,a2,a3]);clear aB HF;have su:af (∀k,(O Ao dR.length co).ownBlock=N k->w.heap.size+1<=k/\k<wo.heap.size):=by show ∀_,_;intro k hk;exact⟨lJ HO k hk,Vd HO k hk⟩
   go_wp2_with(first
    |(at_lookup;refine aam (M:=MI) _ iN _ _ rfl w.heap.size m cc rfl rfl zD Au ?_;rw[HS.E])
    |(at_mapUpdate;refine WB (M:=MI) _ rfl _ _ _ rfl w.heap.size m cc Z rfl rfl rfl zD Au ?_;intro w2 xG Cf;have wR:=G xG;have uz:=G Cf;have iW:=G (ni.kept Cf (own_ne ni (Nat.lt_succ_self _)));have fM:=Cf.size;simp only[aW] at fM;clear xG Cf)
    |(at_builtin;refine pX _ rfl (.tmp 25) (.tmp 27) _ rfl (w.heap.size+1) 3 i0 _ 1 8 underlying174 gz fu gq fG rfl I _ dR.length (dR.map (C D)) rfl (iW.alloc _) (w2.heap.size+1) (N ⟨w2,0,J⟩) 1 1 [C D cc] rfl (mX w2 #[cc] _ 1 rfl) (aur cc) lH I bB ?_;intro v4 w4 Ni yz Zw;have hk4:=((tY.grown uz Ro).alloc (ag #[cc] 3)).grown yz (by intro e;have:=(su _ e.symm).2;omega);obtain⟨_,_,_,y3⟩:=zB hk4;have zF:=G ((wR.alloc (ag #[cc] 3)).grown yz (by intro e;have:=(su _ e.symm).1;omega));have dE:=G (((aM.grown uz bB (λk hk=>by cases hk;exact aC _)).alloc I (ag #[cc] 3)).grown yz bB (λk hk=>by have:=(su k hk).1;omega));have xM:=G Ni;clear Ni yz Zw hk4))
   refine⟨⟨a3,dR++ [cc],yM m cc Z,rfl,?_,zF,?_,dE,yB.1,yB.2.1,by rw[eB,mf];exact ac8,?_,HA⟩,?_⟩;·rw[eB,mf,oM];exact xM
   ·intro x;rw[Wz,aut,HG.E]
   ·rw[eB,mf];exact FE
   obtain⟨A4,c4,rfl⟩:=eO xM;simp only[ajf];omega
theorem ac9{g:Bool}{a:bE}:J3 g a=Z↔1<=a.code/\a.code<=99999/\1<=a.kind/\a.kind<=5/\(g=Z->1<=a.basis/\a.basis<=3)/\(g=X->a.basis=0):=by unfold J3;cases g<;>simp[and_assoc]
theorem Tg{g:Bool}{a:bE}(h:¬(1<=a.code/\a.code<=99999/\1<=a.kind/\a.kind<=5/\(g=Z->1<=a.basis/\a.basis<=3)/\(g=X->a.basis=0))):J3 g a=X:=by
 cases e:J3 g a;·rfl
 exact absurd (ac9.1 e) h
theorem Ti{g:Bool}{a:bE}(h:J3 g a=X):ug l g a=X:=by unfold ug;rw[h];rfl
theorem auv{g:Bool}{a:bE}(h:J3 g a=Z)(h0:a.parent=0):ug l g a=Z:=by unfold ug;rw[h,h0];rfl
theorem ajh{g:Bool}{a:bE}(h:J3 g a=Z)(h0:(a.parent==0)=X):ug l g a=(P5 l a&&(NV l a.code).parent==0):=by unfold ug;rw[h,h0];simp
theorem aji{a:bE}(h:gZ l a.parent=J):P5 l a=X:=by unfold P5;rw[h]
theorem ajj{a p:bE}(h:gZ l a.parent=N p):P5 l a=((p.code !=a.code)&&p.kind==a.kind):=by unfold P5;rw[h]
theorem auw{xs:List Int}{m:Nat}(h:xs.length=m+1):xs.getD m 0=xs.getLastD 0:=by
 have hm:xs≠ []:=by rintro rfl;simp at h
 rw[List.getLastD_eq_getLast?,List.getLast?_eq_some_getLast hm,List.getLast_eq_getElem hm];have e:xs.length-1=m:=I;simp only[e,Option.getD_some,Et];rw[wu I];rfl
theorem ajk(h:R:=by
  go_enter func158,ntmps158;go_wp2_with fail;have uQ:=G (uP l A n c x3 B _ (HR.fV hB (aC _) aP) bB I);refine uQ.mono ?_;rintro e w1 ⟨rfl,aB⟩;rw[FV.E];have aM:=G (aU aP aB);have tY:=G (HK.below aB aG);obtain⟨c0,c1,c2,c3⟩:=zB tY;have ed:w.heap.size<w1.heap.size:=zT;clear aB uQ;go_wp2_with fail;have aS:=G (aM.alloc I (ag #[p0,p1,p2,p3] 78));have Au:=G (auu l A n c x0 B _ (HR.fV hB (aC _) aS) bB hn dI HX);generalize w1.alloc _=w2 at*;have fw:=aS.size;refine Au.mono ?_;rintro e w3 ⟨v,rfl,aV,aR⟩;obtain⟨tt,Pm,htp⟩:=atd l (l.length+1) x0 [] (λh=>absurd rfl h) (by obtain⟨b,hb⟩:=Qf;have:=aiA (Wp hb);rw[aab hb] at this;exact this);have HT:af (((NV l x0).parent==0)=(tt.parent==0)):=by show _=_;unfold NV;rw[Pm];rfl
  have su:=aiA (Wp Qf.choose_spec);rw[aab Qf.E.choose_spec] at su;have zq:=as8 l (l.length+1) x0 [] aG aG;have ow:=aiz _ _ zq.1 zq.2;rw[oz] at ow;clear zq;rw[HL.E] at Pm su ow;have HTT:=G (J8 Pm);clear Pm htp;generalize(nG l (n+1) x0 []).1=PP at*;obtain⟨m,hm⟩:∃m,PP.length=m+1:=⟨PP.length-1,by have:=List.length_pos_iff.2 su;omega⟩;have HGL:=G (auw hm);rw[hm] at aV ow;obtain⟨A3,c3',rfl⟩:=eO aV;obtain⟨ad,rfl,_,uj⟩:=(Reads.uA aV).anO (k:=m) I;rw[HGL.E] at uj;have bC:=G (aU aS aR);generalize PP.getLastD 0=auy at*;clear aV hm su HGL aR fw Au c0 c1 c2 c3;have rH:=bC.size;have HFD:=G (uP l A n c auy B w3 (HR.fV hB (aC _) bC) I I);go_wp2_with fail;refine HFD.mono ?_;rintro e w4 ⟨rfl,bu⟩;rw[HTT.E];have dE:=G (aU bC bu);have BJ:=dE.size;clear bu HFD uj;obtain⟨q0,q1,q2,q3⟩:=tt;simp only[] at HT;go_wp2_with fail;go_ret;exact⟨ik (by rw[HG.E,F.E,HT.E]),dE.alloc I _⟩):R:=h
theorem ada(h:R:=by have ed:w.heap.size<w1.heap.size:=zT;clear aB uQ;go_wp2_with fail;go_ret;exact⟨ik (HG.trans F).symm,aM.alloc I _⟩):R:=h
theorem ajl(h:R:=by go_enter func158,ntmps158;go_wp2_with fail;have uQ:=G (uP l A n c x3 B _ (HR.fV hB (aC _) aP) bB I);refine uQ.mono ?_;rintro e w1 ⟨rfl,aB⟩;rw[FV.E];have aM:=G (aU aP aB);have tY:=G (HK.below aB aG);obtain⟨c0,c1,_,_⟩:=zB tY;exact ada):R:=h
theorem ajm(h:R:=by go_enter func158,ntmps158;go_wp2_with fail;have uQ:=G (uP l A n c x3 B _ (HR.fV hB (aC _) aP) bB I);refine uQ.mono ?_;rintro e w1 ⟨rfl,aB⟩;rw[FV.E];have aM:=G (aU aP aB);have tY:=G (HK.below aB aG);obtain⟨c0,_,_,_⟩:=zB tY;exact ada):R:=h
theorem ajn(h:R:=by clear hf;go_enter func158,ntmps158;go_wp2_with fail;have uQ:=G (uP l A n c x3 B _ (HR.fV hB (aC _) aP) bB I);refine uQ.mono ?_;rintro e w1 ⟨rfl,aB⟩;rw[FV.E];have aM:=G (aU aP aB);have tY:=G (HK.below aB aG);exact ada):R:=h
theorem aDM(h:R:=by go_enter func158,ntmps158;go_wp2_with fail;go_ret;exact⟨ik (HG.trans F).symm,aP⟩):R:=h
theorem ajo(h:R:=by have F:=G (Ti (l:=l) (Tg (g:=Z) (a:=⟨x0,x1,x2,x3⟩) (by dsimp only;rintro⟨_,_,_,_,h,_⟩;have:=h rfl;omega)));exact aDM):R:=h
theorem ajp(h:R:=by
  have d8:(x3==0)=Z:=by rw[beq_iff_eq];exact t8
  have F:=G (auv (l:=l) AY t8);clear t8;exact aDM):R:=h
theorem LP(h:R:=by exact aDM):R:=h
theorem ajq(l:List bE)(A:Option aK)(n c:Nat)(a:bE)(g:Bool)(B:Nat)(w:Y)(hr:Reads w B 4 A n (jS l))(hB:B<=w.heap.size)(hn:n<=1000)(aX:∀x∈l,Dh x)(rP:∃b,gZ l a.code=N b)(hx:fU a.code):
  aF aa 158 #[O A n c,LJ a,g] w λe w'=>e=aI (ug l g a)/\aj w w w':=by
 obtain⟨x0,x1,x2,x3⟩:=a;unfold LJ;simp only[] at rP hx |-;have HL:=G (Qc hr);have HR:=G hr;have dI:=G aX;have Qf:=G rP;have HX:=G hx;clear aX rP hx;have aT:=(aN w w).alloc (aC _) (ag #[x0,x1,x2,x3] 78);have aP:=G aT;have HK:=G (ai.new w 78 #[x0,x1,x2,x3]);clear hr aT;generalize lu:ug l g ⟨x0,x1,x2,x3⟩=ok;have HG:=G lu.symm;clear lu;by_cases t1:x0<1;·have F:=G (Ti (l:=l) (Tg (g:=g) (a:=⟨x0,x1,x2,x3⟩) (by dsimp only;rintro⟨h,_⟩;omega)));exact LP
 by_cases t2:99999<x0;·have F:=G (Ti (l:=l) (Tg (g:=g) (a:=⟨x0,x1,x2,x3⟩) (by dsimp only;rintro⟨_,h,_⟩;omega)));exact LP
 by_cases t3:x1<1;·have F:=G (Ti (l:=l) (Tg (g:=g) (a:=⟨x0,x1,x2,x3⟩) (by dsimp only;rintro⟨_,_,h,_⟩;omega)));exact LP
 by_cases t4:5<x1;·have F:=G (Ti (l:=l) (Tg (g:=g) (a:=⟨x0,x1,x2,x3⟩) (by dsimp only;rintro⟨_,_,_,h,_⟩;omega)));exact LP
 cases g;case false=>
  by_cases t7:x2=0;case neg=>
   have d7:(x2 !=0)=Z:=by rw[bne_iff_ne];exact t7
   have F:=G (Ti (l:=l) (Tg (g:=X) (a:=⟨x0,x1,x2,x3⟩) (by dsimp only;rintro⟨_,_,_,_,_,h⟩;have:=h rfl;omega)));exact LP
  have d7:(x2 !=0)=X:=by rw[bne_eq_false_iff_eq];exact t7
  have t7a:0<=x2:=I;have t7b:x2<=0:=I;clear t7;have AY:=G ((ac9 (g:=X) (a:=⟨x0,x1,x2,x3⟩)).2 (by dsimp only;exact⟨I,I,I,I,(λh=>by cases h),(λ_=>by omega)⟩));by_cases t8:x3=0;·exact ajp
  have d8:(x3==0)=X:=by rw[beq_eq_false_iff_ne];exact t8
  have gY:=G (ajh (l:=l) AY d8);clear t8;cases hf:gZ l x3 with
  |none=>
   have FV:=G (LK hf);have F:af (ug l X ⟨x0,x1,x2,x3⟩=X):=by show _=_;rw[gY.E,aji hf];rfl
   exact ajn
  |some p=>
   have FV:=G (J8 hf);have qP:af (ug l X ⟨x0,x1,x2,x3⟩=(((p.code !=x0)&&p.kind==x1)&&(NV l x0).parent==0)):=by show _=_;rw[gY.E,ajj hf]
   clear hf;obtain⟨p0,p1,p2,p3⟩:=p;simp only[] at FV qP;cases e1:p0==x0;case true=>
    have Ew:(p0 !=x0)=X:=Rx;have F:af (ug l X ⟨x0,x1,x2,x3⟩=X):=by show _=_;rw[qP.E];rw[Ew];rfl
    exact ajm
   have Ew:(p0 !=x0)=Z:=Rx;cases e2:p1==x1;case false=>
    have e2':(p1 !=x1)=Z:=Ry;have F:af (ug l X ⟨x0,x1,x2,x3⟩=X):=by show _=_;rw[qP.E];rw[Ew,e2];rfl
    exact ajl
   have e2':(p1 !=x1)=X:=Ry;have F:af (ug l X ⟨x0,x1,x2,x3⟩=((NV l x0).parent==0)):=by show _=_;rw[qP.E,Ew,e2];simp
   exact ajk
 by_cases t5:x2<1;·exact ajo
 by_cases t6:3<x2;·exact ajo
 have AY:=G ((ac9 (g:=Z) (a:=⟨x0,x1,x2,x3⟩)).2 (by dsimp only;exact⟨I,I,I,I,(λ_=>⟨I,I⟩),(λh=>by cases h)⟩));by_cases t8:x3=0;·exact ajp
 have d8:(x3==0)=X:=by rw[beq_eq_false_iff_ne];exact t8
 have gY:=G (ajh (l:=l) AY d8);clear t8;cases hf:gZ l x3 with
 |none=>
  have FV:=G (LK hf);have F:af (ug l Z ⟨x0,x1,x2,x3⟩=X):=by show _=_;rw[gY.E,aji hf];rfl
  exact ajn
 |some p=>
  have FV:=G (J8 hf);have qP:af (ug l Z ⟨x0,x1,x2,x3⟩=(((p.code !=x0)&&p.kind==x1)&&(NV l x0).parent==0)):=by show _=_;rw[gY.E,ajj hf]
  clear hf;obtain⟨p0,p1,p2,p3⟩:=p;simp only[] at FV qP;cases e1:p0==x0;case true=>
   have Ew:(p0 !=x0)=X:=Rx;have F:af (ug l Z ⟨x0,x1,x2,x3⟩=X):=by show _=_;rw[qP.E];rw[Ew];rfl
   exact ajm
  have Ew:(p0 !=x0)=Z:=Rx;cases e2:p1==x1;case false=>
   have e2':(p1 !=x1)=Z:=Ry;have F:af (ug l Z ⟨x0,x1,x2,x3⟩=X):=by show _=_;rw[qP.E];rw[Ew,e2];rfl
   exact ajl
  have e2':(p1 !=x1)=X:=Ry;have F:af (ug l Z ⟨x0,x1,x2,x3⟩=((NV l x0).parent==0)):=by show _=_;rw[qP.E,Ew,e2];simp
  exact ajk
theorem adb{a:Y}(h:aj B a w):aj B a w.drew:=⟨h.os,h.tape,h.output,h.size,h.block⟩
theorem WE{f:Nat->Bool}(h:(rQ k).all f=Z)(h':f k=Z):(rQ (k+1)).all f=Z:=by rw[List.range_succ,List.all_append,h];simp[h']
theorem WG{f:Nat->Bool}(hk:k<n)(h:f k=X):(rQ n).all f=X:=by rw[List.all_eq_false];exact⟨k,List.mem_range.2 hk,by rw[h];simp⟩
theorem aC6{g:Bool}(hk:k<l.length)(h:aix l g k=X):aiy l g=X:=by unfold aiy;rw[WG hk h,Bool.and_false]
theorem ade{g:Bool}(hk:k<l.length)(h:P6 l g k=X):mq l g=X:=by unfold mq;rw[WG hk h,Bool.false_and]
theorem Reads.ajr{size:Nat}(h:Reads w w size A n xs)(hb:aj w w w'):Reads w' w' size A n xs:=(h.keep λ_ hp=>hb.cell hp).more hb.size
def ChS(wo:Y)(ad:aK)(k q:Nat)(x0 x1 x2 x3 pc:Int)(W:Y):Prop:=aj wo wo W/\W.cell? (ad.add (k*4))=N (C D x0)/\W.cell? ⟨(ad.add (k*4)).block,(ad.add (k*4)).off+1,J⟩=N (C D x1)/\W.cell? ⟨(ad.add (k*4)).block,(ad.add (k*4)).off+2,J⟩=N (C D x2)/\W.cell? ⟨(ad.add (k*4)).block,(ad.add (k*4)).off+3,J⟩=N (C D x3)/\W.cell? (ad.add (q*4))=N (C D pc)
theorem ChS.step{wo:Y}{ad:aK}{x0 x1 x2 x3 pc:Int}(h:ChS wo ad k q x0 x1 x2 x3 pc W)(hb:aj W W W')(mK:ad.block<wo.heap.size):ChS wo ad k q x0 x1 x2 x3 pc W':=by obtain⟨h0,h1,h2,h3,h4,h5⟩:=h;have hs:=h0.size;refine⟨aU h0 hb,(hb.cell E9).trans h1,(hb.cell abu).trans h2,(hb.cell abu).trans h3,(hb.cell abu).trans h4,(hb.cell E9).trans h5⟩
def Qg(w2:Y)(b:Nat)(ad:aK)(q:Nat)(x0 x1 x2 x3 pc:Int)(W:Y):Prop:=aj w2 w2 W/\W.cell? ⟨b,0,J⟩=N (C D x0)/\W.cell? ⟨b,1,J⟩=N (C D x1)/\W.cell? ⟨b,2,J⟩=N (C D x2)/\W.cell? ⟨b,3,J⟩=N (C D x3)/\W.cell? (ad.add (q*4))=N (C D pc)
theorem Qg.step{w2:Y}{ad:aK}{x0 x1 x2 x3 pc:Int}(h:Qg w2 b ad q x0 x1 x2 x3 pc W)(hb:aj W W W')(mK:ad.block<w2.heap.size)(FP:b<w2.heap.size):Qg w2 b ad q x0 x1 x2 x3 pc W':=by obtain⟨h0,h1,h2,h3,h4,h5⟩:=h;have hs:=h0.size;refine⟨aU h0 hb,(hb.cell (p:=⟨b,0,J⟩) Y5).trans h1,(hb.cell (p:=⟨b,1,J⟩) Y5).trans h2,(hb.cell (p:=⟨b,2,J⟩) Y5).trans h3,(hb.cell (p:=⟨b,3,J⟩) Y5).trans h4,(hb.cell E9).trans h5⟩
theorem auz(h:k<l.length):∃b,gZ l (l.getD k ay).code=N b:=acS (aiB h)
theorem aan(l:List bE)(A:Option aK)(n c:Nat)(g:Bool)(B:Nat)(w:Y)(hr:Reads w B 4 A n (jS l))(hB:B<=w.heap.size)(hn:n<=1000)(aX:∀x∈l,Dh x):
  aF aa 84 #[O A n c,g] w λe w'=>e=aI (mq l g)/\aj w w w':=by
 have HL:=G (Qc hr);have HR:=G hr;have dI:=G aX;clear hr aX;generalize lu:mq l g=ok;have HG:=G lu.symm;clear lu;go_enter func84,ntmps84;go_wp2_with fail;go_loopw [9] (λi wr=>∃k:Nat,k<=n/\i=C D k/\(rQ k).all (P6 l g)=Z/\aj w w wr) (λi _=>n-(intOf i).toNat);case atStart=>exact⟨0,I,rfl,rfl,aN _ _⟩
 obtain⟨k,hk,rfl,hd,aH⟩:=hrel;obtain⟨wo,rfl⟩:=dz wr;have HD:=G hd;clear hd;by_cases aO:k<n;case neg=>
  by_cases WH:n<=200;all_goals
   have F:af (mq l g=decide (n<=200)):=by show _=_;unfold mq;rw[HL.E,show n=k by omega,HD.E];rfl
  ·have h2:decide ((n:Int)<=200)=Z:=by rw[decide_eq_true_eq];omega
   rw[decide_eq_true WH] at F;clear WH;go_wp2_with fail;go_ret;exact⟨ik KP,aH⟩
  have h2:decide ((n:Int)<=200)=X:=by rw[decide_eq_false_iff_not];omega
  rw[decide_eq_false WH] at F;clear WH;go_wp2_with fail;go_ret;exact⟨ik KP,aH⟩
 have k3:decide ((k:Int)<(n:Int))=Z:=jO;have jg:=G ((HR.fV hB (aC _) aH).more (B':=wo.heap.size) YZ);have yG:=jg.SY aO;obtain⟨ad,rfl,mK,c0,c1,c2,c3⟩:=yG;have jg:=jg;have hpv:wo.cell? (ad.add ((k-1)*4))=N (C D (l.getD (k-1) ay).code):=by obtain⟨Hf,e,_,d0,_⟩:=jg.SY (k:=k-1) I;injection e with e;rw[e];exact d0
 have auA:=G hpv;clear hpv;have Qf:=G (auz (l:=l) (k:=k) zW);have HX:=G (dI _ (aiB (l:=l) (i:=k) zW)).1;have kX:af (P6 l g k=(Wq l k&&ug l g (l.getD k ay))):=rfl;have HAS:af (Wq l k=(decide (k=0)||decide ((l.getD (k-1) ay).code<(l.getD k ay).code))):=rfl;generalize(l.getD (k-1) ay).code=pc at*;generalize l.getD k ay=x at*;obtain⟨x0,x1,x2,x3⟩:=x;simp only[] at c0 c1 c2 c3 kX HAS Qf HX;obtain⟨pv,hpv⟩:∃pv,ug l g ⟨x0,x1,x2,x3⟩=pv:=⟨_,rfl⟩;rw[hpv] at kX;have Pw:=G hpv;have ed:=aH.size;have aS:=G (aH.alloc ed (ag #[x0,x1,x2,x3] 78));have We:=G ((jg.alloc (aC _) (ag #[x0,x1,x2,x3] 78)).more (B':=(wo.alloc (ag #[x0,x1,x2,x3] 78)).heap.size) aG);have fw:(wo.alloc (ag #[x0,x1,x2,x3] 78)).heap.size=wo.heap.size+1:=aG;obtain⟨y0,y1,y2,y3⟩:=zB (ai.new wo 78 #[x0,x1,x2,x3]);have HS:af (Qg (wo.alloc (ag #[x0,x1,x2,x3] 78)) wo ad (k-1) x0 x1 x2 x3 pc (wo.alloc (ag #[x0,x1,x2,x3] 78)).drew):=⟨adb (aN _ _),y0,y1,y2,y3,(Rn wo _ _ (by rw[zX];exact mK)).trans auA⟩;clear y0 y1 y2 y3 hpv;by_cases rE:k=0;case pos=>
  have kz2:decide (0<k)=X:=fI;have WI:af (P6 l g k=pv):=by show _=_;rw[kX.E,HAS.E,decide_eq_true rE];simp
  clear rE kX HAS;go_upto_region 4 with fail;generalize wo.alloc _=w2 at*;refine iA (S:=Qg w2 wo ad (k-1) x0 x1 x2 x3 pc) dh HS (λbg=>?_);refine aA 0 ?_;refine aA 1 ?_;refine aA 2 ?_;refine tC 3 ?_;refine tC 4 ?_;refine tC 5 ?_;refine tC 6 ?_;refine tC 7 ?_;refine tC 8 ?_;refine tC 9 ?_;refine tC 10 ?_;refine tC 11 ?_;refine aA 12 ?_;refine aA 13 ?_;refine aA 14 ?_;refine aA 15 ?_;refine aA 16 ?_;refine wpAnyH_ready (rs:= [17]) dh aG ?_;refine(Hg rfl (λK hK=>?_) RL);go_simp;refine(ajq l (N ad) n c ⟨x0,x1,x2,x3⟩ g _ _ (We.ajr bg.1) (aC _) I dI Qf HX).mono ?_;rintro e wa ⟨rfl,jB⟩;rw[Pw.E];dsimp only
  refine bF hK (by exact bg.step jB I I) (λbg=>?_);clear hK K jB;refine aA 18 ?_;refine aA 19 ?_;refine gI ?_;have aB:aj w w wa:=aU aS bg.1;repeat clear bg
  cases pv;case false=>have F:af (mq l g=X):=ade (k:=k) zW WI;go_wp2_with fail;go_ret;exact⟨ik KP,aB⟩
  have F:=G (WE HD WI);go_wp2_with fail;exact⟨⟨k+1,I,bR,F,aB⟩,bW⟩
 obtain⟨q,rfl⟩:∃q,k=q+1:=⟨k-1,I⟩;have kz:decide ((0:Int)<((q+1:Nat):Int))=Z:=jO;rw[Nat.add_sub_cancel] at HS;have hq0:(0:Int)<=(q:Int)+1:=I;have sM:(q:Int)+1<(n:Int):=I;have iL:(q:Int)<(n:Int):=I;by_cases fO:x0<=pc;case pos=>
  have l1:decide (x0<=pc)=Z:=decide_eq_true fO;have F:af (mq l g=X):=ade (k:=q+1) zW (by rw[kX.E,HAS.E,decide_eq_false (by omega:¬(q+1=0)),decide_eq_false (by omega:¬pc<x0)];rfl);clear rE kX HAS fO;go_upto_region 4 with fail;generalize wo.alloc _=w2 at*;have hwq:IntKind.i64.wrap (q:Int)=(q:Int):=IntWalk.i64_in _ I;refine iA (S:=Qg w2 wo ad q x0 x1 x2 x3 pc) dh HS (λbg=>?_);refine aA 0 ?_;refine aA 1 ?_;refine aA 2 ?_;refine aA 3 ?_;refine aA 4 ?_;refine aA 5 ?_;refine aA 6 ?_;refine aA 7 ?_;refine aA 8 ?_;refine aA 9 ?_;refine aA 10 ?_;refine aA 11 ?_;refine aA 12 ?_;refine aA 13 ?_;refine tC 14 ?_;refine tC 15 ?_;refine tC 16 ?_;refine tC 17 ?_;refine tC 18 ?_;refine aA 19 ?_;refine gI ?_;clear hwq;have aB:=aS;repeat clear bg
  go_wp2_with fail;go_ret;exact⟨ik KP,adb aB⟩
 have l1:decide (x0<=pc)=X:=decide_eq_false fO;have WI:af (P6 l g (q+1)=pv):=by show _=_;rw[kX.E,HAS.E,decide_eq_false (by omega:¬(q+1=0)),decide_eq_true (by omega:pc<x0)];simp
 clear rE kX HAS fO;go_upto_region 4 with fail;generalize wo.alloc _=w2 at*;have hwq:IntKind.i64.wrap (q:Int)=(q:Int):=IntWalk.i64_in _ I;refine iA (S:=Qg w2 wo ad q x0 x1 x2 x3 pc) dh HS (λbg=>?_);refine aA 0 ?_;refine aA 1 ?_;refine aA 2 ?_;refine aA 3 ?_;refine aA 4 ?_;refine aA 5 ?_;refine aA 6 ?_;refine aA 7 ?_;refine aA 8 ?_;refine aA 9 ?_;refine aA 10 ?_;refine aA 11 ?_;refine aA 12 ?_;refine aA 13 ?_;refine aA 14 ?_;refine aA 15 ?_;refine aA 16 ?_;refine wpAnyH_ready (rs:= [17]) dh aG ?_;refine(Hg rfl (λK hK=>?_) RL);go_simp;refine(ajq l (N ad) n c ⟨x0,x1,x2,x3⟩ g _ _ (We.ajr bg.1) (aC _) I dI Qf HX).mono ?_;rintro e wa ⟨rfl,jB⟩;rw[Pw.E];dsimp only
 refine bF hK (by exact bg.step jB I I) (λbg=>?_);clear hK K jB;refine aA 18 ?_;refine aA 19 ?_;refine gI ?_;clear hwq;have aB:aj w w wa:=aU aS bg.1;repeat clear bg
 cases pv;case false=>have F:af (mq l g=X):=ade (k:=(q+1)) zW WI;go_wp2_with fail;go_ret;exact⟨ik KP,aB⟩
 have F:=G (WE HD WI);go_wp2_with fail;exact⟨⟨(q+1)+1,I,bR,F,aB⟩,bW⟩
theorem aao{f:Nat->Bool}(h:(rQ k).all f=Z)(h':f k=Z):(rQ (k+1)).all f=Z:=by rw[List.range_succ,List.all_append,h];simp[h']
theorem ajs{f:Nat->Bool}(hk:k<n)(h:f k=X):(rQ n).all f=X:=by rw[List.all_eq_false];exact⟨k,List.mem_range.2 hk,by rw[h];simp⟩
theorem ajt:P8 s i=Z↔65<=(s.getD i 0).toNat/\(s.getD i 0).toNat<=90:=by unfold P8;simp only[bq,decide_eq_true_eq,UInt8.le_iff_toNat_le];exact Iff.rfl
theorem auB(h:P8 s i=X):(s.getD i 0).toNat<65\/90<(s.getD i 0).toNat:=by
 rcases jl (s.getD i 0).toNat 65 with h1|h1;·exact .inl h1
 rcases jl 90 (s.getD i 0).toNat with h2|h2;·exact .inr h2
 rw[ajt.2 ⟨h1,h2⟩] at h;cases h
theorem auC(hk:k<s.length)(h:P8 s k=X):De s=X:=by unfold De;rw[ajs hk h];rfl
theorem aju{b:UInt8}:Dc b=Z↔(97<=b.toNat/\b.toNat<=122)\/(65<=b.toNat/\b.toNat<=90):=by unfold Dc;simp only[Bool.or_eq_true,bq,decide_eq_true_eq,UInt8.le_iff_toNat_le];exact Iff.rfl
theorem auD{b:UInt8}(h:¬((97<=b.toNat/\b.toNat<=122)\/(65<=b.toNat/\b.toNat<=90))):Dc b=X:=by
 cases e:Dc b;·rfl
 exact absurd (aju.1 e) h
theorem aap:J5 s i=Z↔Dc (s.getD i 0)=Z\/(i≠0/\((s.getD i 0).toNat=45\/(48<=(s.getD i 0).toNat/\(s.getD i 0).toNat<=57))):=by
 unfold J5;simp only[Bool.or_eq_true,bq,decide_eq_true_eq,UInt8.le_iff_toNat_le,beq_iff_eq];have e:(s.getD i 0=45)↔(s.getD i 0).toNat=45:=by
  constructor;·intro h;rw[h];rfl
  intro h;exact UInt8.toNat_inj.1 h
 rw[e];exact Iff.rfl
theorem adf(h:¬(Dc (s.getD i 0)=Z\/(i≠0/\((s.getD i 0).toNat=45\/(48<=(s.getD i 0).toNat/\(s.getD i 0).toNat<=57))))):J5 s i=X:=by
 cases e:J5 s i;·rfl
 exact absurd (aap.1 e) h
theorem adg(hk:k<s.length)(h:J5 s k=X):Eu s=X:=by unfold Eu;rw[ajs hk h];rfl
theorem ajv(l:List UInt8)(w:Y)(hl:l.length<=9223372036854775807):aF aa 223 #[l] w λe w'=>e=aI (De l)/\w=w':=by
 generalize lu:De l=ok;have HG:=G lu.symm;clear lu;go_enter func223,ntmps223;go_wp2_with fail;go_loop [6] (λi=>∃k:Nat,k<=l.length/\i=C D (k:Int)/\(rQ k).all (P8 l)=Z) (λi=>l.length-(intOf i).toNat);case atStart=>exact⟨0,FI _,rfl,rfl⟩
 obtain⟨k,hk,rfl,ha⟩:=hrel;have HA:=G ha;clear ha;by_cases aO:k<l.length
 ·have b1:(k:Int)<(l.length:Int):=by omega
  have b2:(0:Int)<=(k:Int):=I;have bV:k<(⟨l.toArray⟩:ByteArray).size:=YY;cases hd:P8 l k
  ·have F:=G (auC aO hd);have hno:=auB hd;rw[<-JB l k bV] at hno;clear hd HA;rcases hno with h|h
   ·have q1:decide ((((⟨l.toArray⟩:ByteArray)[k]).toNat:Int)<65)=Z:=by rw[decide_eq_true_eq];omega
    go_wp2_with fail;go_ret;exact⟨ik KP,rfl⟩
   have q1:decide ((((⟨l.toArray⟩:ByteArray)[k]).toNat:Int)<65)=X:=by rw[decide_eq_false_iff_not];omega
   have q2:decide (90<(((⟨l.toArray⟩:ByteArray)[k]).toNat:Int))=Z:=jO;go_wp2_with fail;go_ret;exact⟨ik KP,rfl⟩
  have F:=G (aao HA hd);have hb:=ajt.1 hd;rw[<-JB l k bV] at hb;have q1:decide ((((⟨l.toArray⟩:ByteArray)[k]).toNat:Int)<65)=X:=fI;have q2:decide (90<(((⟨l.toArray⟩:ByteArray)[k]).toNat:Int))=X:=fI;clear hb hd HA;go_wp2_with fail;go_round;case rel=>exact⟨k+1,I,bR,F⟩
  simp[intOf];omega
 have F:af (De l=(l.length==3)):=by show _=_;unfold De;rw[show l.length=k by omega,HA.E];simp
 go_wp2_with fail;go_ret;exact⟨ik (by rw[HG.E,F.E];first|rfl|(rw[FH,beq_iff_eq,beq_iff_eq];omega)),rfl⟩
theorem ajw(h:R:=by go_enter func300,ntmps300;go_wp2_with fail;go_ret;exact⟨ik KP,rfl⟩):R:=h
theorem ajx(h:R:=by have F:af (Dc b=Z):=aju.2 I;exact ajw):R:=h
theorem adh(h:R:=by have F:af (Dc b=X):=auD I;exact ajw):R:=h
theorem auE(b:UInt8)(w:Y):aF aa 300 #[C .u8 (b.toNat:Int)] w λe w'=>e=aI (Dc b)/\w=w':=by
 generalize lu:Dc b=ok;have HG:=G lu.symm;clear lu;by_cases h1:97<=b.toNat
 ·by_cases h2:b.toNat<=122;·skip;have q0:decide (97<=(b.toNat:Int))=Z:=jO;have q1:decide ((b.toNat:Int)<=122)=Z:=jO;exact ajx
  skip;have q0:decide (97<=(b.toNat:Int))=Z:=jO;have q1:decide ((b.toNat:Int)<=122)=X:=fI;have q2:decide (65<=(b.toNat:Int))=Z:=jO;have q3:decide ((b.toNat:Int)<=90)=X:=fI;exact adh
 by_cases h3:65<=b.toNat
 ·by_cases h4:b.toNat<=90;·skip;have q0:decide (97<=(b.toNat:Int))=X:=fI;have q1:decide (65<=(b.toNat:Int))=Z:=jO;have q2:decide ((b.toNat:Int)<=90)=Z:=jO;exact ajx
  skip;have q0:decide (97<=(b.toNat:Int))=X:=fI;have q1:decide (65<=(b.toNat:Int))=Z:=jO;have q2:decide ((b.toNat:Int)<=90)=X:=fI;exact adh
 skip;have q0:decide (97<=(b.toNat:Int))=X:=fI;have q1:decide (65<=(b.toNat:Int))=X:=fI;exact adh
theorem adi(h:R:=by
  go_wp2_with fail;refine(uL _).mono ?_;rintro e wx ⟨rfl,rfl⟩;rw[WJ.E];go_wp2_with fail;go_round;case rel=>exact⟨k+1,I,bR,F⟩
  case measure=>simp[intOf];omega):R:=h
theorem adj(h:R:=by go_wp2_with fail;refine(uL _).mono ?_;rintro e wx ⟨rfl,rfl⟩;rw[WJ.E];go_wp2_with fail;go_ret;exact⟨ik KP,rfl⟩):R:=h
theorem auF(l:List UInt8)(w:Y)(hl:l.length<=9223372036854775807):aF aa 276 #[l] w λe w'=>e=aI (Eu l)/\w=w':=by
 generalize lu:Eu l=ok;have HG:=G lu.symm;clear lu;go_enter func276,ntmps276;go_wp2_with fail;go_loop [7] (λi=>∃k:Nat,k<=l.length/\i=C D (k:Int)/\(rQ k).all (J5 l)=Z) (λi=>l.length-(intOf i).toNat);case atStart=>exact⟨0,FI _,rfl,rfl⟩
 obtain⟨k,hk,rfl,ha⟩:=hrel;have HA:=G ha;clear ha;by_cases aO:k<l.length
 ·have b1:(k:Int)<(l.length:Int):=by omega
  have b2:(0:Int)<=(k:Int):=I;have bV:k<(⟨l.toArray⟩:ByteArray).size:=YY;have uL:af (∀w:Y,aF aa 300 #[C .u8 (((⟨l.toArray⟩:ByteArray)[k]).toNat:Int)] w λe w'=>e=aI (Dc (⟨l.toArray⟩:ByteArray)[k])/\w=w'):=λw=>auE _ w;have Ff:=JB l k bV;have Qh:af ((⟨l.toArray⟩:ByteArray)[k]=l.getD k 0):=Ff;clear Ff;cases hb:Dc (⟨l.toArray⟩:ByteArray)[k]
  ·have WJ:=G hb;have HLG:af (Dc (l.getD k 0)=X):=by show _=_;rw[<-Qh.E];exact hb
   clear hb;have e0:((⟨l.toArray⟩:ByteArray)[k]).toNat=(l.getD k 0).toNat:=by rw[Qh.E]
   by_cases rE:k=0
   ·have q0:((k:Int)==0)=Z:=by rw[beq_iff_eq];omega
    have q0':(k==0)=Z:=by rw[beq_iff_eq];omega
    have F:af (Eu l=X):=adg aO (adf abq);clear e0 rE;exact adj
   have q0:((k:Int)==0)=X:=by rw[beq_eq_false_iff_ne];omega
   have q0':(k==0)=X:=iO;by_cases h45:(l.getD k 0).toNat=45
   ·have q1:((((⟨l.toArray⟩:ByteArray)[k]).toNat:Int)!=45)=X:=by rw[bne_eq_false_iff_eq];omega
    have F:af ((rQ (k+1)).all (J5 l)=Z):=aao HA (aap.2 (.inr ⟨I,I⟩));clear e0 h45;exact adi
   have q1:((((⟨l.toArray⟩:ByteArray)[k]).toNat:Int)!=45)=Z:=by rw[bne_iff_ne];omega
   by_cases h48:(l.getD k 0).toNat<48
   ·have q2:decide ((((⟨l.toArray⟩:ByteArray)[k]).toNat:Int)<48)=Z:=by rw[decide_eq_true_eq];omega
    have F:af (Eu l=X):=adg aO (adf abq);clear e0 h45 h48;exact adj
   have q2:decide ((((⟨l.toArray⟩:ByteArray)[k]).toNat:Int)<48)=X:=by rw[decide_eq_false_iff_not];omega
   by_cases h57:57<(l.getD k 0).toNat
   ·have q3:decide (57<(((⟨l.toArray⟩:ByteArray)[k]).toNat:Int))=Z:=by rw[decide_eq_true_eq];omega
    have F:af (Eu l=X):=adg aO (adf abq);clear e0 h45 h48 h57;exact adj
   have q3:decide (57<(((⟨l.toArray⟩:ByteArray)[k]).toNat:Int))=X:=by rw[decide_eq_false_iff_not];omega
   have F:af ((rQ (k+1)).all (J5 l)=Z):=aao HA (aap.2 (.inr ⟨I,I⟩));clear e0 h45 h48 h57;exact adi
  have WJ:=G hb;have F:af ((rQ (k+1)).all (J5 l)=Z):=aao HA (aap.2 (.inl (by rw[<-Qh.E];exact hb)));clear hb;exact adi
 have F:af (Eu l=(decide (1<=l.length)&&decide (l.length<=16))):=by show _=_;unfold Eu;rw[show l.length=k by omega,HA.E];simp
 by_cases h1:1<=l.length
 ·have q1:decide ((1:Int)<=(l.length:Int))=Z:=by rw[decide_eq_true_eq];omega
  have q1':1<=l.length:=h1;have aC7:0<l.length:=h1;by_cases h2:l.length<=16
  ·have q2:decide ((l.length:Int)<=16)=Z:=by rw[decide_eq_true_eq];omega
   have gN:af ((decide (1<=l.length)&&decide (l.length<=16))=Z):=by show _=_;rw[decide_eq_true h1,decide_eq_true h2];rfl
   go_wp2_with fail;go_ret;exact⟨ik abJ,rfl⟩
  have q2:decide ((l.length:Int)<=16)=X:=by rw[decide_eq_false_iff_not];omega
  have gN:af ((decide (1<=l.length)&&decide (l.length<=16))=X):=by show _=_;rw[decide_eq_false h2,Bool.and_false]
  go_wp2_with fail;go_ret;exact⟨ik abJ,rfl⟩
 have q1:decide ((1:Int)<=(l.length:Int))=X:=by rw[decide_eq_false_iff_not];omega
 have q1':¬0<l.length:=h1;have gN:af ((decide (1<=l.length)&&decide (l.length<=16))=X):=by show _=_;rw[decide_eq_false h1,Bool.false_and]
 go_wp2_with fail;go_ret;exact⟨ik abJ,rfl⟩
theorem adk(h:R:=by go_enter func274,ntmps274;go_wp2_with fail;go_ret;exact⟨ik (HG.trans F).symm,aP⟩):R:=h
theorem ajy(h:R:=by clear h1 h2 h3;exact adk):R:=h
theorem ajz(h:R:=by clear h1 h2;exact adk):R:=h
theorem ajA(h:R:=by clear h1;exact adk):R:=h
theorem auG(a:bE)(w:Y):aF aa 274 #[LJ a] w λe w'=>e=aI (uy a)/\aj w w w':=by
 obtain⟨x0,x1,x2,x3⟩:=a;unfold LJ;simp only[];have aP:=G ((aN w w).alloc (aC _) (ag #[x0,x1,x2,x3] 78));generalize lu:uy ⟨x0,x1,x2,x3⟩=ok;have HG:=G lu.symm;clear lu;by_cases h1:x1=1
 ·skip;have q1:(x1==1)=Z:=by rw[beq_iff_eq];omega
  cases e1:x2==1
  ·cases e3:x2==3;all_goals
    have F:af (uy ⟨x0,x1,x2,x3⟩=((x2==1)||(x2==3))):=afh;rw[e1,e3] at F;exact ajA
  have F:af (uy ⟨x0,x1,x2,x3⟩=((x2==1)||(x2==3))):=by show _=_;unfold uy;simp only[];rw[if_pos I]
  rw[e1] at F;exact ajA
 have q1:(x1==1)=X:=by rw[beq_eq_false_iff_ne];omega
 by_cases h2:x1=2
 ·skip;have q2:(x1==2)=Z:=by rw[beq_iff_eq];omega
  cases e1:x2==1
  ·cases e3:x2==3;all_goals
    have F:af (uy ⟨x0,x1,x2,x3⟩=((x2==1)||(x2==3))):=afh;rw[e1,e3] at F;exact ajz
  have F:af (uy ⟨x0,x1,x2,x3⟩=((x2==1)||(x2==3))):=by show _=_;unfold uy;simp only[];rw[if_pos I]
  rw[e1] at F;exact ajz
 have q2:(x1==2)=X:=by rw[beq_eq_false_iff_ne];omega
 by_cases h3:x1=3
 ·have q3:(x1==3)=Z:=by rw[beq_iff_eq];omega
  cases e3:x2==3;all_goals
   have F:af (uy ⟨x0,x1,x2,x3⟩=(x2==3)):=by show _=_;unfold uy;simp only[];rw[if_neg I,if_pos h3]
   rw[e3] at F;exact ajy
 have q3:(x1==3)=X:=by rw[beq_eq_false_iff_ne];omega
 cases e2:x2==2;all_goals
  have F:af (uy ⟨x0,x1,x2,x3⟩=(x2==2)):=by show _=_;unfold uy;simp only[];rw[if_neg I,if_neg h3]
  rw[e2] at F;exact ajy
theorem WK{m p:Int}:AU y m p=Z↔1<=m/\m<=12/\1<=p/\p<=120/\1900<=y/\y<=2199/\(12*y+m-1+(p-1))/12<=2199:=by unfold AU;simp only[bq,decide_eq_true_eq,and_assoc]
theorem Qi{m p:Int}(h:¬(1<=m/\m<=12/\1<=p/\p<=120/\1900<=y/\y<=2199/\(12*y+m-1+(p-1))/12<=2199)):AU y m p=X:=by
 cases e:AU y m p;·rfl
 exact absurd (WK.1 e) h
theorem auH{m:Int}(hm:1<=m/\m<=12):NZ y m 1=Z↔1900<=y/\y<=2199:=by
 rw[SQ];constructor;·rintro⟨_,h⟩;apply Classical.byContradiction;intro hn;rw[Wt (λh'=>hn ⟨h'.1,h'.2.1⟩)] at h;omega
 intro h;have:=atH h hm;omega
theorem ajB(y m d:Int):∃sH Fh:Int,LC y m d=bz #[sH,Fh]:=by
 unfold LC;split;·exact⟨_,_,rfl⟩
 exact⟨_,_,rfl⟩
def LQ(y m q:Int):ak:=LC ((12*y+m-1+q)/12) ((12*y+m-1+q)%12+1) 1
theorem auI{m q:Int}(hy:1900<=y)(hm:1<=m)(hq:0<=q)(h:(12*y+m-1+q)/12<=2199):∃sH:Int,LQ y m q=bz #[sH,C D 0]:=by have h1:=(auH (y:=(12*y+m-1+q)/12) (m:=(12*y+m-1+q)%12+1) I).2 I;exact⟨_,by unfold LQ LC;rw[if_pos h1]⟩
theorem auJ{m q:Int}(h:¬(12*y+m-1+q)/12<=2199):LQ y m q=bz #[C D 0,C D 2]:=by unfold LQ;exact ac0 (λh'=>by rw[Wt I] at h';omega)
theorem ajC(y m p q:Int)(w:Y)(hy:1900<=y)(Eo:y<=2199)(hm:1<=m)(xG:m<=12)(hq:0<=q)(iL:q<=119):
  aF aa 180 #[aD #[y,m,p],q] w λe w'=>e=aI (LQ y m q)/\aj w w w':=by have aP:=G ((aN w w).alloc (aC _) (ag (#[y,m,p]:Array ak) 23));have HO:af (∀w:Y,aF aa 237 #[C D ((12*y+m-1+q)/12),C D ((12*y+m-1+q)%12+1),C D 1] w λe w'=>e=aI (LQ y m q)/\aj w w w'):=λw=>atQ _ _ _ w;go_enter func180,ntmps180;go_wp2_with fail;refine(HO _).mono ?_;rintro e w1 ⟨rfl,aB⟩;have aM:=G (aU aP aB);clear aB HO;obtain⟨sH,Fh,hNE⟩:=ajB ((12*y+m-1+q)/12) ((12*y+m-1+q)%12+1) 1;have HF:af (LQ y m q=bz #[sH,Fh]):=hNE;clear hNE;rw[HF.E];go_wp2_with fail;go_ret2;exact⟨by rw[HF.E];rfl,aM⟩
theorem ajD(h:R:=by go_enter func224,ntmps224;go_wp2_with fail;refine(kN _).mono ?_;rintro e w1 ⟨rfl,aB⟩;have aM:=G (aU aP aB);clear aB kN;rw[cK.E];go_wp2_with fail;go_ret;exact⟨ik (HG.trans F).symm,aM⟩):R:=h
theorem Tj(h:R:=by go_enter func224,ntmps224;go_wp2_with fail;go_ret;exact⟨ik (HG.trans F).symm,aP⟩):R:=h
theorem aaq(y m p:Int)(w:Y):aF aa 224 #[aD #[y,m,p]] w λe w'=>e=aI (AU y m p)/\aj w w w':=by
 have aP:=G ((aN w w).alloc (aC _) (ag (#[y,m,p]:Array ak) 23));generalize lu:AU y m p=ok;have HG:=G lu.symm;clear lu;by_cases t1:m<1;·have F:=G (Qi (y:=y) (m:=m) (p:=p) (by rintro⟨h,_⟩;omega));exact Tj
 by_cases t2:12<m;·have F:=G (Qi (y:=y) (m:=m) (p:=p) (by rintro⟨_,h,_⟩;omega));exact Tj
 by_cases t3:p<1;·have F:=G (Qi (y:=y) (m:=m) (p:=p) (by rintro⟨_,_,h,_⟩;omega));exact Tj
 by_cases t4:120<p;·have F:=G (Qi (y:=y) (m:=m) (p:=p) (by rintro⟨_,_,_,h,_⟩;omega));exact Tj
 by_cases t5:y<1900;·have F:=G (Qi (y:=y) (m:=m) (p:=p) (by rintro⟨_,_,_,_,h,_⟩;omega));exact Tj
 by_cases t6:2199<y;·have F:=G (Qi (y:=y) (m:=m) (p:=p) (by rintro⟨_,_,_,_,_,h,_⟩;omega));exact Tj
 have kN:af (∀w:Y,aF aa 180 #[aD #[y,m,p],C D (p-1)] w λe w'=>e=aI (LQ y m (p-1))/\aj w w w'):=λw=>ajC y m p (p-1) w I I I I I I;by_cases h7:(12*y+m-1+(p-1))/12<=2199;·obtain⟨sH,hN⟩:=auI (y:=y) (m:=m) (q:=p-1) I I I h7;have cK:=G hN;clear hN;have F:=G (WK.2 ⟨(by omega:1<=m),I,(by omega:1<=p),I,(by omega:1900<=y),I,h7⟩);exact ajD
 have cK:=G (auJ h7);have F:=G (Qi (y:=y) (m:=m) (p:=p) (by rintro⟨_,_,_,_,_,_,h⟩;omega));exact ajD
theorem auK{x:ib}(h:gZ ec x.zz=J):zA ec gc x=X:=by unfold zA;rw[h]
theorem auL{x:ib}(h:gZ gc x.az=J):zA ec gc x=X:=by unfold zA;rw[h];cases gZ ec x.zz<;>rfl
theorem auM{x:ib}{a b:bE}(h:gZ ec x.zz=N a)(h2:gZ gc x.az=N b):zA ec gc x=((a.kind==b.kind)&&BU x.since):=by unfold zA;rw[h,h2]
theorem aDO(h:R:=by clear aJ wS c0 c1 c2;go_wp2_with fail;go_ret;exact⟨ik (HG.trans F).symm,aS.alloc I _⟩):R:=h
theorem ajE(h:R:=by skip;go_enter func301,ntmps301;go_wp2_with fail;have wT:=G (uP ch Ac nc cc l0 B _ (HC.rd.fV hB (aC _) aP) bB HC.le);refine wT.mono ?_;rintro e w1 ⟨rfl,aB⟩;rw[FA.E];have aM:=G (aU aP aB);have qR:=G (HL.below aB aG);obtain⟨c0,c1,c2⟩:=S9 qR;have ed:w.heap.size+1<w1.heap.size:=zT;clear aB wT;have wS:=G (uP gl gA gn gc l1 B (w1.alloc (ag #[C D 0,C D 0,C D 0,C D 0] 78)) (qK.rd.fV hB (aC _) (aM.alloc I _)) bB qK.le);go_wp2_with fail;refine wS.mono ?_;rintro e w2 ⟨rfl,aJ⟩;rw[FB.E];have aS:=G (aU (aM.alloc I (ag #[C D 0,C D 0,C D 0,C D 0] 78)) aJ);have kW:=G ((ai.new w1 78 #[C D 0,C D 0,C D 0,C D 0]).below aJ aG);have xK:=G ((qR.alloc (ag #[C D 0,C D 0,C D 0,C D 0] 78)).below aJ bB);have fw:w1.heap.size<w2.heap.size:=Ri;have VG:w.heap.size+1<w2.heap.size:=I;exact aDO):R:=h
theorem WL(h:R:=by exact aDO):R:=h
theorem auN(x:pI)(l:ib)(gA:Option aK)(gn gc:Nat)(gl:List bE)(B:Nat)(w:Y)(hx:Ce w B x)(hg:Di w B gA gn gc gl)(hB:B<=w.heap.size):
  aF aa 301 #[Gp x,O gA gn gc,Df l] w λe w'=>e=aI (zA x.jI gl l)/\aj w w w':=by
 obtain⟨nm,cu,Ac,nc,cc,ch,Al,nl,cl,ls,jt⟩:=x;obtain⟨l0,l1,l2⟩:=l;unfold Gp Df;have HC:=G hx.ch;have qK:=G hg;clear hx hg;simp only[] at HC |-;generalize lu:zA ch gl ⟨l0,l1,l2⟩=ok;have HG:=G lu.symm;clear lu;have aP:=G (((aN w w).alloc (aC _) (ag #[nm,cu,O Ac nc cc,O Al nl cl,jt] 161)).alloc aG (ag #[l0,l1,l2] 226));have HL:af (ai ((w.alloc (ag #[nm,cu,O Ac nc cc,O Al nl cl,jt] 161)).alloc (ag #[l0,l1,l2] 226)) (w.heap.size+1) 226 #[l0,l1,l2]):=by have:=ai.new (w.alloc (ag #[nm,cu,O Ac nc cc,O Al nl cl,jt] 161)) 226 #[l0,l1,l2];simp only[aW] at this;exact this
 cases hfa:gZ ch l0 with
 |none=>
  have FA:=G (LK hfa);have F:af (zA ch gl ⟨l0,l1,l2⟩=X):=auK hfa;clear hfa;cases zG:gZ gl l1 with
  |none=>have FB:=G (LK zG);clear zG;exact ajE
  |some b=>have FB:=G (J8 zG);clear zG;obtain⟨b0,b1,b2,b3⟩:=b;simp only[] at FB;exact ajE
 |some a=>
  have FA:=G (J8 hfa);cases zG:gZ gl l1 with
  |none=>have FB:=G (LK zG);have F:af (zA ch gl ⟨l0,l1,l2⟩=X):=auL zG;clear hfa zG;obtain⟨a0,a1,a2,a3⟩:=a;simp only[] at FA;skip;go_enter func301,ntmps301;go_wp2_with fail;have wT:=G (uP ch Ac nc cc l0 B _ (HC.rd.fV hB (aC _) aP) bB HC.le);refine wT.mono ?_;rintro e w1 ⟨rfl,aB⟩;rw[FA.E];have aM:=G (aU aP aB);have qR:=G (HL.below aB aG);obtain⟨c0,c1,c2⟩:=S9 qR;have ed:w.heap.size+1<w1.heap.size:=zT;clear aB wT;have wS:=G (uP gl gA gn gc l1 B (w1.alloc (ag #[a0,a1,a2,a3] 78)) (qK.rd.fV hB (aC _) (aM.alloc I _)) bB qK.le);go_wp2_with fail;refine wS.mono ?_;rintro e w2 ⟨rfl,aJ⟩;rw[FB.E];have aS:=G (aU (aM.alloc I (ag #[a0,a1,a2,a3] 78)) aJ);have kW:=G ((ai.new w1 78 #[a0,a1,a2,a3]).below aJ aG);have xK:=G ((qR.alloc (ag #[a0,a1,a2,a3] 78)).below aJ bB);have fw:w1.heap.size<w2.heap.size:=Ri;have VG:w.heap.size+1<w2.heap.size:=I;exact WL
  |some b=>
   have FB:=G (J8 zG);have FO:af (zA ch gl ⟨l0,l1,l2⟩=((a.kind==b.kind)&&BU l2)):=auM hfa zG;clear hfa zG;obtain⟨a0,a1,a2,a3⟩:=a;obtain⟨b0,b1,b2,b3⟩:=b;simp only[] at FA FB FO;cases hk:a1==b1;case false=>
    have F:af (zA ch gl ⟨l0,l1,l2⟩=X):=by show _=_;rw[FO.E,hk];rfl
    skip;go_enter func301,ntmps301;go_wp2_with fail;have wT:=G (uP ch Ac nc cc l0 B _ (HC.rd.fV hB (aC _) aP) bB HC.le);refine wT.mono ?_;rintro e w1 ⟨rfl,aB⟩;rw[FA.E];have aM:=G (aU aP aB);have qR:=G (HL.below aB aG);obtain⟨c0,c1,c2⟩:=S9 qR;have ed:w.heap.size+1<w1.heap.size:=zT;clear aB wT;have wS:=G (uP gl gA gn gc l1 B (w1.alloc (ag #[a0,a1,a2,a3] 78)) (qK.rd.fV hB (aC _) (aM.alloc I _)) bB qK.le);go_wp2_with fail;refine wS.mono ?_;rintro e w2 ⟨rfl,aJ⟩;rw[FB.E];have aS:=G (aU (aM.alloc I (ag #[a0,a1,a2,a3] 78)) aJ);have kW:=G ((ai.new w1 78 #[a0,a1,a2,a3]).below aJ aG);have xK:=G ((qR.alloc (ag #[a0,a1,a2,a3] 78)).below aJ bB);have fw:w1.heap.size<w2.heap.size:=Ri;have VG:w.heap.size+1<w2.heap.size:=I;obtain⟨_,k1,_,_⟩:=zB kW;exact WL
   have F:af (zA ch gl ⟨l0,l1,l2⟩=BU l2):=by show _=_;rw[FO.E,hk];rfl
   skip;go_enter func301,ntmps301;go_wp2_with fail;have wT:=G (uP ch Ac nc cc l0 B _ (HC.rd.fV hB (aC _) aP) bB HC.le);refine wT.mono ?_;rintro e w1 ⟨rfl,aB⟩;rw[FA.E];have aM:=G (aU aP aB);have qR:=G (HL.below aB aG);obtain⟨c0,c1,c2⟩:=S9 qR;have ed:w.heap.size+1<w1.heap.size:=zT;clear aB wT;have wS:=G (uP gl gA gn gc l1 B (w1.alloc (ag #[a0,a1,a2,a3] 78)) (qK.rd.fV hB (aC _) (aM.alloc I _)) bB qK.le);go_wp2_with fail;refine wS.mono ?_;rintro e w2 ⟨rfl,aJ⟩;rw[FB.E];have aS:=G (aU (aM.alloc I (ag #[a0,a1,a2,a3] 78)) aJ);have kW:=G ((ai.new w1 78 #[a0,a1,a2,a3]).below aJ aG);have xK:=G ((qR.alloc (ag #[a0,a1,a2,a3] 78)).below aJ bB);have fw:w1.heap.size<w2.heap.size:=Ri;have VG:w.heap.size+1<w2.heap.size:=I;obtain⟨_,k1,_,_⟩:=zB kW;obtain⟨_,_,m2⟩:=S9 xK;clear aJ wS c0 c1 c2;go_wp2_with fail;refine(SS l2 _).mono ?_;rintro e wx ⟨rfl,rfl⟩;go_wp2_with fail;go_ret;exact⟨ik (HG.trans F).symm,aS.alloc I _⟩
theorem adl[Inhabited α]{p:α->Bool}{xs:List α}(hk:k<xs.length):(xs.take (k+1)).any p=((xs.take k).any p||p (xs.getD k ay)):=by rw[sD hk,List.any_append];simp[dO,hk]
theorem ajF(hk:k<ls.length)(h:Ww ec gc ls k=X):SX ec gc ls=X:=by unfold SX;exact WG hk h
theorem auO(h:mq gc Z=X):ui ec gc ls=X:=by unfold ui;rw[h];rfl
theorem auP(h:mq ec X=X):ui ec gc ls=X:=by unfold ui;rw[h];simp
theorem auQ(h:¬ls.length<=400):ui ec gc ls=X:=by unfold ui;rw[decide_eq_false h];simp
theorem ajG(h:SX ec gc ls=X):ui ec gc ls=X:=by unfold ui;rw[h];simp
theorem auR(h1:mq gc Z=Z)(h2:mq ec X=Z)(h3:ls.length<=400)(h4:SX ec gc ls=Z):ui ec gc ls=Z:=by unfold ui;rw[h1,h2,h4,decide_eq_true h3];rfl
theorem auS:fU 0:=by unfold fU;decide
theorem auT(x:pI)(gA:Option aK)(gn gc:Nat)(gl:List bE)(B:Nat)(w:Y)(hx:Ce w B x)(hg:Di w B gA gn gc gl)(hB:B<=w.heap.size)(hn:x.nc<=1000)(hgn:gn<=1000):
  aF aa 277 #[Gp x,O gA gn gc] w λe w'=>e=aI (ui x.jI gl x.links)/\aj w w w':=by
 obtain⟨nm,cu,Ac,nc,cc,ch,Al,nl,cl,ls,jt⟩:=x;unfold Gp;have HX:=G hx;have HC:=G hx.ch;have q8:=G hx.li;have qK:=G hg;clear hx hg;simp only[] at HC q8 hn |-;have HLL:=G q8.len;have fO:=q8.le;generalize lu:ui ch gl ls=ok;have HG:=G lu.symm;clear lu;have aP:=G ((aN w w).alloc (aC _) (ag #[nm,cu,O Ac nc cc,O Al nl cl,jt] 161));have HE:=G (ai.new w 161 #[nm,cu,O Ac nc cc,O Al nl cl,jt]);have zx:= @run_makeMap aa;go_enter func277,ntmps277;go_wp2_with fail;have H1:=G (aan gl gA gn gc Z B _ (qK.rd.fV hB (aC _) aP) bB hgn qK.ok);refine H1.mono ?_;rintro e w1 ⟨rfl,aB⟩;have aM:=G (aU aP aB);have kK:=G (HE.below aB aG);have ed:w.heap.size<w1.heap.size:=zT;obtain⟨e0,e1,e2,e3,e4⟩:=Tc kK;clear aB H1;cases v1:mq gl Z;case false=>have F:af (ui ch gl ls=X):=auO v1;clear v1;go_wp2_with fail;go_ret;exact⟨ik (HG.trans F).symm,aM⟩
 have V1:=G v1;clear v1;have H2:=G (aan ch Ac nc cc X B w1 (HC.rd.fV hB (aC _) aM) I hn HC.ok);go_wp2_with fail;refine H2.mono ?_;rintro e w2 ⟨rfl,aJ⟩;have aS:=G (aU aM aJ);have q9:=G (kK.below aJ ed);have fw:w.heap.size<w2.heap.size:=abL;clear aJ H2 e0 e1 e2 e3 e4;obtain⟨e0,e1,e2,e3,e4⟩:=Tc q9;cases v2:mq ch X;case false=>have F:af (ui ch gl ls=X):=auP v2;clear v2;go_wp2_with fail;go_ret;exact⟨ik (HG.trans F).symm,aS⟩
 have V2:=G v2;clear v2;by_cases Wv:nl<=400;case neg=>have d4:decide ((400:Int)<(nl:Int))=Z:=jO;have F:af (ui ch gl ls=X):=auQ (by rw[HLL.E];exact Wv);go_wp2_with fail;go_ret;exact⟨ik (HG.trans F).symm,aS⟩
 have d4:decide ((400:Int)<(nl:Int))=X:=fI;have Gq:=G (jA.made (M:=ML) w2);have bC:=G (aS.alloc I (.map #[] 0));have xQ:=G (q9.alloc (.map #[] 0));go_wp2_with fail;clear e0 e1 e2 e3 e4;go_loopw [28] (λi wr=>∃(k:Nat) (m:List (ib × Bool)),i=C D k/\k<=nl/\(rQ k).all (Ww ch gl ls)=Z/\jA ML wr w2 m/\(∀a b:Int,lZ m ⟨a,0,b⟩=(ls.take k).any λy=>(y.zz==a)&&(y.since==b))/\aj w w wr/\
  ai wr w 161 #[nm,cu,O Ac nc cc,O Al nl cl,jt]) (λi _=>nl-(intOf i).toNat)
 case atStart=>exact⟨0,[],rfl,I,rfl,Gq,λ_ _=>rfl,bC,xQ⟩
 obtain⟨k,m,rfl,hk,hd,hm,hg,aH,fq⟩:=hrel;obtain⟨wo,rfl⟩:=dz wr;have HD:=G hd;have HM:=G hm;have Ey:=G hg;have BP:=G fq;have LM:=fq.lt;have II:=hm.lt;clear hd hm hg fq;by_cases aO:k<nl;case neg=>have F:af (ui ch gl ls=Z):=auR V1 V2 (by rw[HLL.E];exact Wv) (by unfold SX;rw[HLL.E,show nl=k by omega];exact HD);go_wp2_with fail;go_ret;exact⟨ik (HG.trans F).symm,aH⟩
 have dA:k<ls.length:=by rw[HLL.E];exact aO
 obtain⟨ad,rfl,_,c0,c1,c2⟩:=(q8.rd.fV hB (aC _) aH).Wx aO;have LU:=G (q8.ok (ls.getD k ay) OX);have kX:af (Ww ch gl ls k=(zA ch gl (ls.getD k ay)&& !aai ls k (ls.getD k ay))):=rfl;have AZ:af (lZ m ⟨(ls.getD k ay).zz,0,(ls.getD k ay).since⟩=aai ls k (ls.getD k ay)):=Ey _ _;have gP:af (∀a b:Int,(ls.take (k+1)).any (λy=>(y.zz==a)&&(y.since==b))=((ls.take k).any (λy=>(y.zz==a)&&(y.since==b))||(((ls.getD k ay).zz==a)&&((ls.getD k ay).since==b)))):=λa b=>adl dA;have ZZ:=G dA;clear dA;generalize ls.getD k ay=x at*;obtain⟨x0,x1,x2⟩:=x;simp only[] at c0 c1 c2 kX AZ gP LU;have Ez:af (ML.ok ⟨x0,0,x2⟩):=⟨LU.1,auS,LU.2.2⟩;have fM:=aH.size;have dE:=G ((aH.alloc fM (ag #[x0,x1,x2] 226)).alloc bB (ag #[x0,C D 0,x2] 226));have zF:=G ((HM.alloc (ag #[x0,x1,x2] 226)).alloc (ag #[x0,C D 0,x2] 226));have hE4:=(BP.alloc (ag #[x0,x1,x2] 226)).alloc (ag #[x0,C D 0,x2] 226);obtain⟨e0,e1,e2,e3,e4⟩:=Tc BP;have zH:=G hE4;have IJ:af (ai ((wo.alloc (ag #[x0,x1,x2] 226)).alloc (ag #[x0,C D 0,x2] 226)) (wo.heap.size+1) 226 #[x0,C D 0,x2]):=by have:=ai.new (wo.alloc (ag #[x0,x1,x2] 226)) 226 #[x0,C D 0,x2];simp only[aW] at this;exact this
 clear hE4;cases sv:aai ls k ⟨x0,x1,x2⟩;case true=>have F:af (ui ch gl ls=X):=ajG (ajF ZZ (by rw[kX.E,sv];simp));have mV:af (lZ m ⟨x0,0,x2⟩=Z):=AZ.trans sv;clear sv;go_wp2_with(at_lookup;refine WA (M:=ML) _ rfl _ _ rfl w2.heap.size m ⟨x0,0,x2⟩ rfl rfl zF Ez ?_;rw[mV.E]);go_ret;exact⟨ik (HG.trans F).symm,dE⟩
 have mV:af (lZ m ⟨x0,0,x2⟩=X):=AZ.trans sv;have LV:af (Ww ch gl ls k=zA ch gl ⟨x0,x1,x2⟩):=by show _=_;rw[kX.E,sv];simp
 clear sv;have SA:=G (auN ⟨nm,cu,Ac,nc,cc,ch,N ad,nl,cl,ls,jt⟩ ⟨x0,x1,x2⟩ gA gn gc gl B _ (HX.low hB (aC _) dE) (qK.low hB (aC _) dE) bB);unfold Gp Df at SA;simp only[] at SA;go_wp2_with(at_lookup;refine WA (M:=ML) _ rfl _ _ rfl w2.heap.size m ⟨x0,0,x2⟩ rfl rfl zF Ez ?_;rw[mV.E]);refine SA.mono ?_;rintro e w5 ⟨rfl,cO⟩;have fT:=G (aU dE cO);have IK:=G (zF.below cO bB);have LW:=G (zH.below cO bB);have Ba:=G (IJ.below cO bB);obtain⟨q0,q1,q2⟩:=S9 Ba;have BJ:=fT.size;clear cO SA c0 c1 c2 e0 e1 e2 e3 e4;cases lv:zA ch gl ⟨x0,x1,x2⟩;case false=>have F:af (ui ch gl ls=X):=ajG (ajF ZZ (by rw[LV.E,lv]));clear lv;go_wp2_with fail;go_ret;exact⟨ik (HG.trans F).symm,fT⟩
 have F:=G (WE HD (LV.trans lv));clear lv;go_wp2_with(at_mapUpdate;refine WB (M:=ML) _ rfl _ _ _ rfl w2.heap.size m ⟨x0,0,x2⟩ Z rfl rfl rfl IK Ez ?_;intro w6 Qj bU);refine⟨⟨k+1,yM m ⟨x0,0,x2⟩ Z,bR,I,F,Qj,?_,fT.grown bU I (λj hj=>by cases hj;omega),LW.grown bU Ro⟩,bW⟩;intro a b;rw[Wz,gP.E,Ey.E];by_cases tL:(⟨x0,0,x2⟩:ib)=⟨a,0,b⟩;·rw[if_pos tL];injection tL with h1 _ h3;subst h1 h3;simp
 rw[if_neg tL];have:((x0==a)&&(x2==b))=X:=by
  cases e1:(x0==a)&&(x2==b);·rfl
  rw[bq,beq_iff_eq,beq_iff_eq] at e1;exact absurd (by rw[e1.1,e1.2]) tL
 rw[this,Bool.or_false]
theorem adm[Inhabited α]{p:α->Bool}{xs:List α}(hk:k<xs.length)(h:p (xs.getD k ay)=Z):xs.any p=Z:=List.any_eq_true.2 ⟨_,zV,h⟩
theorem adn[Inhabited α]{p:α->Bool}{xs:List α}(hk:k<xs.length)(h:(xs.take k).any p=X)(h':p (xs.getD k ay)=X):(xs.take (k+1)).any p=X:=by rw[sD hk,List.any_append,h];have e:xs.getD k ay=xs[k]:=zV;rw[e] at h';simp[h']
def auU(p:bE->Bool)(xs:List bE)(w:Y)(e:Ending)(w':Y):Prop:=∃r:Int,e=aI r/\decide (0<=r)=xs.any p/\aj w w w'
theorem ajH(h:R:=by have hd:=HD;rw[o7 U5] at hd;have F:=G hd;clear hd HD;go_wp2_with fail;go_ret;exact⟨-1,rfl,ic,aH⟩):R:=h
theorem ado(h:R:=by have F:=G (HN hp);clear hp HN HY;go_wp2_with fail;exact⟨⟨k+1,I,bR,F,aB⟩,bW⟩):R:=h
theorem ajI(h:R:=by have F:=G (HY hp);clear hp HN HY;go_wp2_with fail;go_ret;exact⟨k,rfl,Rq,aB⟩):R:=h
theorem auV(Fu:FuncId)(EC:Array ak)(p:bE->Bool)(kC:Y->Prop)(oo:∀(args:Array ak) (w:Y),(callFunc Fu args).run aa w= .ok (.enter Fu args) w)(hJ:∀w w',kC w->aj w w w'->kC w')(xs:List bE)
  (hF:∀x∈xs,∀w:Y,kC w->aF aa Fu (#[LJ x]++EC) w λe w'=>e=aI (p x)/\aj w w w')
  (A:Option aK) (n c B:Nat) (w:Y) (hr:Reads w B 4 A n (jS xs)) (hB:B<=w.heap.size) (hn:n<=9223372036854775807) (hw:kC w):
  aF aa 53 #[O A n c,.func (.func Fu) #[] EC] w (auU p xs w):=by
 have HL:=G (Qc hr);have HR:=G hr;have HF:=G hF;have HJ:=G hJ;have HW:=G hw;clear hr hF hJ hw;go_enter func53,ntmps53;go_wp2_with fail;go_loopw [8] (λi wr=>∃k:Nat,k<=n/\i=C D k/\(xs.take k).any p=X/\aj w w wr) (λi _=>n-(intOf i).toNat);case atStart=>exact⟨0,I,rfl,rfl,aN _ _⟩
 obtain⟨k,hk,rfl,hd,aH⟩:=hrel;obtain⟨wo,rfl⟩:=dz wr;have HD:=G hd;clear hd;by_cases aO:k<n
 ·have dA:k<xs.length:=by rw[HL.E];exact aO
  obtain⟨ad,rfl,_,c0,c1,c2,c3⟩:=(HR.fV hB (aC _) aH).SY aO;have HY:af (p (xs.getD k ay)=Z->xs.any p=Z):=λh=>adm dA h;have HN:af (p (xs.getD k ay)=X->(xs.take (k+1)).any p=X):=λh=>adn dA HD h;have HX:=G (HF (xs.getD k ay) OX wo (HJ _ _ HW aH));clear dA;generalize xs.getD k ay=x at*;obtain⟨x0,x1,x2,x3⟩:=x;unfold LJ at HX;simp only[] at c0 c1 c2 c3 HY HN HX;cases hp:p ⟨x0,x1,x2,x3⟩;all_goals
   have HP:=G hp;go_wp2_with fail;refine HX.mono ?_;rintro e w1 ⟨rfl,hb⟩;have aB:=aU aH hb;rw[HP.E];clear c0 c1 c2 c3 hb aH
  ·exact ado
  exact ajI
 exact ajH
theorem ajJ(h:R:=by go_wp2_with fail;refine HI.mono ?_;rintro e w1 ⟨r,rfl,hr,hb⟩;have F7:=G hr;clear hr;go_wp2_with fail;go_ret;exact⟨ik F7,hb⟩):R:=h
theorem auW(Fu:FuncId)(EC:Array ak)(p:bE->Bool)(kC:Y->Prop)(oo:∀(args:Array ak) (w:Y),(callFunc Fu args).run aa w= .ok (.enter Fu args) w)(hJ:∀w w',kC w->aj w w w'->kC w')(xs:List bE)
  (hF:∀x∈xs,∀w:Y,kC w->aF aa Fu (#[LJ x]++EC) w λe w'=>e=aI (p x)/\aj w w w')
  (A:Option aK) (n c B:Nat) (w:Y) (hr:Reads w B 4 A n (jS xs)) (hB:B<=w.heap.size) (hn:n<=9223372036854775807) (hw:kC w):
  aF aa 272 #[O A n c,.func (.func Fu) #[] EC] w λe w'=>e=aI (xs.any p)/\aj w w w':=by have HI:=G (auV Fu EC p kC oo hJ xs hF A n c B w hr hB hn hw);clear hr oo hF hJ hw;go_enter func272,ntmps272;exact ajJ
def auX(p:ib->Bool)(xs:List ib)(w:Y)(e:Ending)(w':Y):Prop:=∃r:Int,e=aI r/\decide (0<=r)=xs.any p/\aj w w w'
theorem auY(Fu:FuncId)(EC:Array ak)(p:ib->Bool)(kC:Y->Prop)(oo:∀(args:Array ak) (w:Y),(callFunc Fu args).run aa w= .ok (.enter Fu args) w)(hJ:∀w w',kC w->aj w w w'->kC w')(xs:List ib)
  (hF:∀x∈xs,∀w:Y,kC w->aF aa Fu (#[Df x]++EC) w λe w'=>e=aI (p x)/\aj w w w')
  (A:Option aK) (n c B:Nat) (w:Y) (hr:Reads w B 3 A n (Gm xs)) (hB:B<=w.heap.size) (hn:n<=9223372036854775807) (hw:kC w):
  aF aa 302 #[O A n c,.func (.func Fu) #[] EC] w (auX p xs w):=by
 have HL:=G (ac2 hr);have HR:=G hr;have HF:=G hF;have HJ:=G hJ;have HW:=G hw;clear hr hF hJ hw;go_enter func302,ntmps302;go_wp2_with fail;go_loopw [8] (λi wr=>∃k:Nat,k<=n/\i=C D k/\(xs.take k).any p=X/\aj w w wr) (λi _=>n-(intOf i).toNat);case atStart=>exact⟨0,I,rfl,rfl,aN _ _⟩
 obtain⟨k,hk,rfl,hd,aH⟩:=hrel;obtain⟨wo,rfl⟩:=dz wr;have HD:=G hd;clear hd;by_cases aO:k<n
 ·have dA:k<xs.length:=by rw[HL.E];exact aO
  obtain⟨ad,rfl,_,c0,c1,c2⟩:=(HR.fV hB (aC _) aH).Wx aO;have HY:af (p (xs.getD k ay)=Z->xs.any p=Z):=λh=>adm dA h;have HN:af (p (xs.getD k ay)=X->(xs.take (k+1)).any p=X):=λh=>adn dA HD h;have HX:=G (HF (xs.getD k ay) OX wo (HJ _ _ HW aH));clear dA;generalize xs.getD k ay=x at*;obtain⟨x0,x1,x2⟩:=x;unfold Df at HX;simp only[] at c0 c1 c2 HY HN HX;cases hp:p ⟨x0,x1,x2⟩;all_goals
   have HP:=G hp;go_wp2_with fail;refine HX.mono ?_;rintro e w1 ⟨rfl,hb⟩;have aB:=aU aH hb;rw[HP.E];clear c0 c1 c2 hb aH
  ·exact ado
  exact ajI
 exact ajH
theorem auZ(Fu:FuncId)(EC:Array ak)(p:ib->Bool)(kC:Y->Prop)(oo:∀(args:Array ak) (w:Y),(callFunc Fu args).run aa w= .ok (.enter Fu args) w)(hJ:∀w w',kC w->aj w w w'->kC w')(xs:List ib)
  (hF:∀x∈xs,∀w:Y,kC w->aF aa Fu (#[Df x]++EC) w λe w'=>e=aI (p x)/\aj w w w')
  (A:Option aK) (n c B:Nat) (w:Y) (hr:Reads w B 3 A n (Gm xs)) (hB:B<=w.heap.size) (hn:n<=9223372036854775807) (hw:kC w):
  aF aa 278 #[O A n c,.func (.func Fu) #[] EC] w λe w'=>e=aI (xs.any p)/\aj w w w':=by have HI:=G (auY Fu EC p kC oo hJ xs hF A n c B w hr hB hn hw);clear hr oo hF hJ hw;go_enter func278,ntmps278;exact ajJ
theorem au0(args:Array ak)(w:Y):(callFunc 273 args).run aa w= .ok (.enter 273 args) w:=by simp[go_sem]
theorem au1(args:Array ak)(w:Y):(callFunc 279 args).run aa w= .ok (.enter 279 args) w:=by simp[go_sem]
theorem au2(a:bE)(w:Y):aF aa 273 #[LJ a] w λe w'=>e=aI (!uy a)/\aj w w w':=by obtain⟨x0,x1,x2,x3⟩:=a;have nN:af (∀w:Y,aF aa 274 #[aD #[x0,x1,x2,x3]] w λe w'=>e=aI (uy ⟨x0,x1,x2,x3⟩)/\aj w w w'):=λw=>auG ⟨x0,x1,x2,x3⟩ w;unfold LJ;simp only[];have aP:=G ((aN w w).alloc (aC _) (ag #[x0,x1,x2,x3] 78));generalize uy ⟨x0,x1,x2,x3⟩=b at*;go_enter func273,ntmps273;go_wp2_with fail;refine(nN _).mono ?_;rintro e w1 ⟨rfl,aB⟩;have aM:=G (aU aP aB);clear aB;go_wp2_with fail;go_ret;exact⟨rfl,aM⟩
def BoxM(g mb:Nat)(m:List (Int × Bool))(w:Y):Prop:=ai w g 374 #[.map (N mb)]/\jA MI w mb m
theorem BoxM.below{mb:Nat}{m:List (Int × Bool)}(h:BoxM g mb m w)(hb:aj w w w'):BoxM g mb m w':=⟨h.1.below hb h.1.lt,h.2.below hb h.2.lt⟩
theorem au3(x:ib)(g mb:Nat)(m:List (Int × Bool))(w:Y)(hx:Od x)(hb:BoxM g mb m w):aF aa 279 #[Df x,aQ g] w λe w'=>e=aI (lZ m x.az)/\aj w w w':=by obtain⟨x0,x1,x2⟩:=x;unfold Df;simp only[];have aP:=G ((aN w w).alloc (aC _) (ag #[x0,x1,x2] 226));have BQ:=hb.1.lt;have hc:=hb.1.cell 0;have HM:=G (hb.2.alloc (ag #[x0,x1,x2] 226));have HK:af (MI.ok x1):=hx.2.1;simp only[iH,iI] at hc;clear hb hx;go_enter func279,ntmps279;go_wp2_with(at_lookup;refine WA (M:=MI) _ rfl _ _ rfl mb m x1 rfl rfl HM HK ?_);go_ret;exact⟨rfl,aP⟩
theorem au4(W:Y)(cs:Array ak)(T:bM)(size n:Nat)(xs:List ak)(hx:xs=cs.toList)(g:Nat)(hg:g=W.heap.size)(hs:cs.size=n*size):Reads (W.alloc (ag cs T)) (W.alloc (ag cs T)).heap.size size (N ⟨g,0,J⟩) n xs:=by subst hx hg;refine⟨by simpa using hs,λ_=>⟨_,rfl,aG,λj u hj=>?_⟩⟩;have hb:=ai.new W T cs;have e:(⟨W,0,J⟩:aK).add j=⟨W,j,J⟩:=YI;rw[e,hb.cell j,<-hj];simp
theorem ajK(r:N8)(w:Y):
  aF aa 275 #[ai3 r] w λe w'=>∃ad:aK,e=aI (O (N ad) 15 15)/\Reads w' w' 5 (N ad) 15 (Gn (uO r))/\w.heap.size<=ad.block/\aj w w w':=by obtain⟨r0,r1,r2,r3,r4,r5,r6,r7,r8,r9,r10,r11,r12,r13,r14⟩:=r;unfold ai3;simp only[];go_enter func275,ntmps275;go_wp2_with fail;go_ret;refine⟨⟨w.heap.size+1,0,J⟩,rfl,au4 _ _ _ 5 15 _ rfl _ aG rfl,Nat.le_succ _,((aN _ _).alloc (aC _) _).alloc aG _⟩
def zI(w:Y)(ad:aK)(xs:List ak):Prop:=ad.block<w.heap.size/\∀j u,xs[j]?=N u->w.cell? (ad.add j)=N u
section
variable{w w':Y}{ad:aK}{xs:List ak}
theorem zI.of{size:Nat}(h:Reads w w size (N ad) n xs)(hn:0<n):zI w ad xs:=by obtain⟨Hf,e,hb,hc⟩:=h.2 hn;injection e with e;subst e;exact⟨hb,hc⟩
theorem zI.reads{size:Nat}(h:zI w ad xs)(hl:xs.length=n*size):Reads w w size (N ad) n xs:=⟨hl,λ_=>⟨ad,rfl,h.1,h.2⟩⟩
theorem zI.below(h:zI w ad xs)(hb:aj w w w'):zI w' ad xs:=⟨yA h.1 hb.size,λj u hu=>(hb.cell (by rw[zX];exact h.1)).trans (h.2 j u hu)⟩
theorem zI.alloc(h:zI w ad xs)(o:Obj):zI (w.alloc o) ad xs:=h.below ((aN _ _).alloc (aC _) _)
theorem zI.grown{row:Option Nat}(h:zI w ad xs)(hg:w.grownBy w' row)(hr:N ad.block≠row):zI w' ad xs:=⟨yA h.1 hg.size,λj u hu=>(He (hg.block (ad.add j).block (by rw[zX];exact h.1) (by rw[zX];exact hr))).trans (h.2 j u hu)⟩
end
theorem au5(hk:k<rs.length)(h:SV l rs k=X):Qa l rs=X:=by unfold Qa;exact WG hk h
theorem au6{g:sP}(h:mq g.jI Z=X):sQ g=X:=by unfold sQ;rw[h];rfl
theorem au7{g:sP}(h:(g.jI.any λa=> !uy a)=Z):sQ g=X:=by unfold sQ;rw[h];simp
theorem au8{g:sP}(h:Qa g.jI (uO g.dL)=X):sQ g=X:=by unfold sQ;rw[h];simp
theorem au9{g:sP}(h1:mq g.jI Z=Z)(h2:(g.jI.any λa=> !uy a)=X)(h3:Qa g.jI (uO g.dL)=Z):sQ g=Z:=by unfold sQ;rw[h1,h2,h3];rfl
theorem ava{r:xP}(h:gZ l r.code=J):P9 l r=X:=by unfold P9;rw[h]
theorem avb{r:xP}{a:bE}(h:gZ l r.code=N a):P9 l r=((a.kind==r.kind)&&(a.basis==r.basis)):=by unfold P9;rw[h]
theorem ajL(r:N8):(Gn (uO r)).length=15*5:=rfl
theorem avc(hk:k<rs.length)(c:Int):LF rs (k+1) c=(LF rs k c||(rs.getD k ay).code==c):=adl hk
theorem avd(l:List bE)(A:Option aK)(n c B:Nat)(w:Y)(hr:Reads w B 4 A n (jS l))(hB:B<=w.heap.size)(hn:n<=9223372036854775807):
  aF aa 272 #[O A n c,.func (.func 273) #[] #[]] w λe w'=>e=aI (l.any λa=> !uy a)/\aj w w w':=auW 273 #[] (λa=> !uy a) (λ_=>True) au0 (λ_ _ _ _=>trivial) l (λx _ w _=>au2 x w) A n c B w hr hB hn trivial
theorem adp(h:R:=by clear fF uQ xR g4 c0 c1 c2 c3 c4;go_wp2_with(at_lookup;refine aam (M:=MI) _ iN _ _ rfl mb m rc rfl rfl Oe.E Ez.E ?_;rw[mV.E]);go_ret;exact⟨ik (HG.E.trans F.E).symm,jk.E⟩):R:=h
theorem ave(g:gm)(B:Nat)(w:Y)(hg:zC w B g)(hB:B<=w.heap.size)(hn:g.nc<=1000):
  aF aa 225 #[J7 g] w λe w'=>e=aI (ax (sQ g.p))/\aj w.heap.size w w':=by
 obtain⟨cu,yr,mo,pe,Ac,nc,cc,ch,ro,Ae,ne,ce,es⟩:=g;unfold J7;have HC:=G hg.ch;have Er:=G hg.ro;clear hg;simp only[] at HC Er hn |-;obtain⟨gp,Ha⟩:∃gp,gm.p ⟨cu,yr,mo,pe,Ac,nc,cc,ch,ro,Ae,ne,ce,es⟩=gp:=⟨_,rfl⟩;have qK:af (gp.jI=ch):=Rt;have Tm:af (gp.dL=ro):=Rt;rw[Ha];clear Ha;generalize lu:sQ gp=ok;have HG:=G lu.symm;clear lu;have aP:=G ((aN w.heap.size w).alloc (aC _) (ag #[au ⟨cu.toArray⟩,C D yr,C D mo,C D pe,O Ac nc cc,C D ro.c0,C D ro.c1,C D ro.c2,C D ro.c3,C D ro.c4,C D ro.c5,C D ro.c6,C D ro.c7,C D ro.c8,C D ro.c9,C D ro.c10,C D ro.c11,C D ro.c12,C D ro.c13,C D ro.c14,O Ae ne ce] 29));have HE:=G (ai.new w 29 #[au ⟨cu.toArray⟩,C D yr,C D mo,C D pe,O Ac nc cc,C D ro.c0,C D ro.c1,C D ro.c2,C D ro.c3,C D ro.c4,C D ro.c5,C D ro.c6,C D ro.c7,C D ro.c8,C D ro.c9,C D ro.c10,C D ro.c11,C D ro.c12,C D ro.c13,C D ro.c14,O Ae ne ce]);have zx:= @run_makeMap aa;go_enter func225,ntmps225;go_wp2_with fail;have H1:=G (aan ch Ac nc cc Z B _ (HC.E.rd.fV hB (aC _) aP.E) bB hn HC.E.ok);refine H1.E.mono ?_;rintro e w1 ⟨rfl,aB⟩;have aM:=G (aU aP.E aB);have kK:=G (HE.E.below aB aG);have ed:w.heap.size<w1.heap.size:=zT;have g4:=kK.E.cell 4;simp only[iH,iX,iI] at g4;clear aB H1;cases v1:mq ch Z;case false=>have F:af (sQ gp=X):=au6 (by rw[qK.E];exact v1);clear v1;go_wp2_with fail;go_ret;exact⟨ik (HG.E.trans F.E).symm,aM.E⟩
 have V1:=G v1;clear v1;have H2:=G (avd ch Ac nc cc B w1 (HC.E.rd.fV hB (aC _) aM.E) I HC.E.le);go_wp2_with fail;refine H2.E.mono ?_;rintro e w2 ⟨rfl,aJ⟩;have aS:=G (aU aM.E aJ);have q9:=G (kK.E.below aJ ed);have fw:w.heap.size<w2.heap.size:=abL;clear aJ H2 g4;cases v2:(ch.any λa=> !uy a);case true=>have F:af (sQ gp=X):=au7 (by rw[qK.E];exact v2);clear v2;go_wp2_with fail;go_ret;exact⟨ik (HG.E.trans F.E).symm,aS.E⟩
 have V2:=G v2;clear v2;have Gq:=G (jA.made (M:=MI) w2);have bC:=G (aS.E.alloc I (.map #[] 0));have xQ:=G (q9.E.alloc (.map #[] 0));obtain⟨g0,g1,g2,g3,g4,g5,g6,g7,g8,g9,g10,g11,g12,g13,g14,g15,g16,g17,g18,g19,g20⟩:=ac4 q9.E;have H4:af (∀W:Y,aF aa 275 #[aD #[C D ro.c0,C D ro.c1,C D ro.c2,C D ro.c3,C D ro.c4,C D ro.c5,C D ro.c6,C D ro.c7,C D ro.c8,C D ro.c9,C D ro.c10,C D ro.c11,C D ro.c12,C D ro.c13,C D ro.c14]] W λe w'=>∃ad:aK,e=aI (O (N ad) 15 15)/\Reads w' w'.heap.size 5 (N ad) 15 (Gn (uO ro))/\W.heap.size<=ad.block/\aj W.heap.size W w'):=λW=>ajK ro W;go_wp2_with fail;refine(H4.E _).mono ?_;rintro e w4 ⟨ad,rfl,nE,mK,bu⟩;have dE:=G (aU bC.E bu);have zH:=G (xQ.E.below bu bB);have zF:=G (Gq.E.below bu aG);have adq:=G (zI.of nE I);have pK:w.heap.size<w2.heap.size:=fw;have su:af (w2.heap.size<ad.block):=afl;clear nE mK bu H4 g0 g1 g2 g3 g4 g5 g6 g7 g8 g9 g10 g11 g12 g13 g14 g15 g16 g17 g18 g19 g20;have avf:af (Qa ch (uO ro)=Z->sQ gp=Z):=λh=>au9 (by rw[qK.E];exact V1.E) (by rw[qK.E];exact V2.E) (by rw[qK.E,Tm.E];exact h);have avg:af (∀k,k<15->SV ch (uO ro) k=X->sQ gp=X):=λk hk h=>au8 (by rw[qK.E,Tm.E];exact au5 (by rw[ac1];exact hk) h);have AP:af ((uO ro).length=15):=ac1 ro;have adr:af ((Gn (uO ro)).length=15*5):=ajL ro;generalize uO ro=rs at*;generalize ads:w2.heap.size=mb at*;clear ads;go_wp2_with fail;go_loopw [22] (λi wr=>∃(k:Nat) (m:List (Int × Bool)),i=C D k/\k<=15/\(rQ k).all (SV ch rs)=Z/\jA MI wr mb m/\(∀c,lZ m c=LF rs k c)/\aj w.heap.size w wr/\
  ai wr w.heap.size 29 #[au ⟨cu.toArray⟩,C D yr,C D mo,C D pe,O Ac nc cc,C D ro.c0,C D ro.c1,C D ro.c2,C D ro.c3,C D ro.c4,C D ro.c5,C D ro.c6,C D ro.c7,C D ro.c8,C D ro.c9,C D ro.c10,C D ro.c11,C D ro.c12,C D ro.c13,C D ro.c14,O Ae ne ce]/\zI wr ad (Gn rs)) (λi _=>15-(intOf i).toNat)
 case atStart=>exact⟨0,[],rfl,I,rfl,zF.E,λ_=>rfl,dE.E,zH.E,adq.E⟩
 obtain⟨k,m,rfl,hk,hd,hm,IL,aH,fq,WM⟩:=hrel;obtain⟨wo,rfl⟩:=dz wr;have HD:=G hd;have HM:=G hm;have Ey:=G IL;have BP:=G fq;have Dj:=G WM;have LM:=fq.lt;have II:=hm.lt;have g4:=fq.cell 4;simp only[iH,iX,iI] at g4;clear hd hm IL fq WM;by_cases aO:k<15;case neg=>have k3:decide ((k:Int)<15)=X:=fI;have F:af (sQ gp=Z):=avf.E (by unfold Qa;rw[AP.E,show 15=k by omega];exact HD.E);go_wp2_with fail;go_ret;exact⟨ik (HG.E.trans F.E).symm,aH⟩
 have b15:(k:Int)<15:=I;have dA:k<rs.length:=by rw[AP.E];exact aO
 obtain⟨Hf,Cg,dU,c0,c1,c2,c3,c4⟩:=(Dj.E.reads adr.E).ai2 aO;injection Cg with Cg;subst Cg;have LU:=G (Er.E (rs.getD k ay) OX);have kX:af (SV ch rs k=(P9 ch (rs.getD k ay)&& !LF rs k (rs.getD k ay).code)):=rfl;have AZ:af (lZ m (rs.getD k ay).code=LF rs k (rs.getD k ay).code):=Ey.E _;have gP:af (∀c:Int,LF rs (k+1) c=(LF rs k c||(rs.getD k ay).code==c)):=λc=>avc dA c;have qJ:=G (avg.E k aO);clear dA;generalize rs.getD k ay=x at*;obtain⟨Gr,rc,rk,rb,rm⟩:=x;simp only[] at c0 c1 c2 c3 c4 kX AZ gP LU;have Ez:af (MI.ok rc):=LU.E;have fM:=aH.size;have eY:=G (aH.alloc fM (ag #[au ⟨Gr.toArray⟩,C D rc,C D rk,C D rb,ax rm] 390));have wU:=G (HM.E.alloc (ag #[au ⟨Gr.toArray⟩,C D rc,C D rk,C D rb,ax rm] 390));have Gs:=G (BP.E.alloc (ag #[au ⟨Gr.toArray⟩,C D rc,C D rk,C D rb,ax rm] 390));have zJ:=G (ai.new wo 390 #[au ⟨Gr.toArray⟩,C D rc,C D rk,C D rb,ax rm]);have adt:=G (Dj.E.alloc (ag #[au ⟨Gr.toArray⟩,C D rc,C D rk,C D rb,ax rm] 390));cases hf:gZ ch rc with
 |none=>have FV:=G (LK hf);have F:af (sQ gp=X):=qJ.E (by rw[kX.E,ava hf];rfl);clear hf;go_wp2_with fail;have uQ:=G (uP ch Ac nc cc rc B _ (HC.E.rd.fV hB (aC _) eY.E) bB HC.E.le);refine uQ.E.mono ?_;rintro e w7 ⟨rfl,fF⟩;rw[FV.E];have jk:=G ((aU eY.E fF).alloc KE (ag #[C D 0,C D 0,C D 0,C D 0] 78));have xR:=zJ.E.below fF aG;clear fF uQ xR g4 c0 c1 c2 c3 c4;go_wp2_with fail;go_ret;exact⟨ik (HG.E.trans F.E).symm,jk.E⟩
 |some a=>
  have FV:=G (J8 hf);have HRI:af (P9 ch ⟨Gr,rc,rk,rb,rm⟩=((a.kind==rk)&&(a.basis==rb))):=avb hf;clear hf;obtain⟨a0,a1,a2,a3⟩:=a;simp only[] at FV HRI;cases sv:LF rs k rc;case true=>have F:af (sQ gp=X):=qJ.E (by rw[kX.E,sv];simp);have mV:af (lZ m rc=Z):=AZ.E.trans sv;clear sv;go_wp2_with fail;have uQ:=G (uP ch Ac nc cc rc B _ (HC.E.rd.fV hB (aC _) eY.E) bB HC.E.le);refine uQ.E.mono ?_;rintro e w7 ⟨rfl,fF⟩;rw[FV.E];have jk:=G ((aU eY.E fF).alloc KE (ag #[C D a0,C D a1,C D a2,C D a3] 78));have xR:=zJ.E.below fF aG;have Oe:=G ((wU.E.below fF bB).alloc (ag #[C D a0,C D a1,C D a2,C D a3] 78));have Dl:wo.heap.size<w7.heap.size:=KE;obtain⟨_,q1,_,_,_⟩:=aaj xR;exact adp
  have mV:af (lZ m rc=X):=AZ.E.trans sv;have LV:af (SV ch rs k=((a1==rk)&&(a2==rb))):=by show _=_;rw[kX.E,sv,HRI.E];simp
  clear sv;cases e1:a1==rk;case false=>have Ew:(a1 !=rk)=Z:=Rx;have F:af (sQ gp=X):=qJ.E (by rw[LV.E,e1];rfl);go_wp2_with fail;have uQ:=G (uP ch Ac nc cc rc B _ (HC.E.rd.fV hB (aC _) eY.E) bB HC.E.le);refine uQ.E.mono ?_;rintro e w7 ⟨rfl,fF⟩;rw[FV.E];have jk:=G ((aU eY.E fF).alloc KE (ag #[C D a0,C D a1,C D a2,C D a3] 78));have xR:=zJ.E.below fF aG;have Oe:=G ((wU.E.below fF bB).alloc (ag #[C D a0,C D a1,C D a2,C D a3] 78));have Dl:wo.heap.size<w7.heap.size:=KE;obtain⟨_,q1,q2,_,_⟩:=aaj xR;exact adp
  have Ew:(a1 !=rk)=X:=Rx;cases e2:a2==rb;case false=>have e2':(a2 !=rb)=Z:=Ry;have F:af (sQ gp=X):=qJ.E (by rw[LV.E,e1,e2];rfl);clear e1;go_wp2_with fail;have uQ:=G (uP ch Ac nc cc rc B _ (HC.E.rd.fV hB (aC _) eY.E) bB HC.E.le);refine uQ.E.mono ?_;rintro e w7 ⟨rfl,fF⟩;rw[FV.E];have jk:=G ((aU eY.E fF).alloc KE (ag #[C D a0,C D a1,C D a2,C D a3] 78));have xR:=zJ.E.below fF aG;have Oe:=G ((wU.E.below fF bB).alloc (ag #[C D a0,C D a1,C D a2,C D a3] 78));have Dl:wo.heap.size<w7.heap.size:=KE;obtain⟨_,q1,q2,q3,_⟩:=aaj xR;exact adp
  have e2':(a2 !=rb)=X:=Ry;have F:=G (WE HD.E (by rw[LV.E,e1,e2];rfl));clear e1 e2;go_wp2_with fail;have uQ:=G (uP ch Ac nc cc rc B _ (HC.E.rd.fV hB (aC _) eY.E) bB HC.E.le);refine uQ.E.mono ?_;rintro e w7 ⟨rfl,fF⟩;rw[FV.E];have jk:=G ((aU eY.E fF).alloc KE (ag #[C D a0,C D a1,C D a2,C D a3] 78));have xR:=zJ.E.below fF aG;have Oe:=G ((wU.E.below fF bB).alloc (ag #[C D a0,C D a1,C D a2,C D a3] 78));have Gt:=G ((Gs.E.below fF bB).alloc (ag #[C D a0,C D a1,C D a2,C D a3] 78));have avh:=G ((adt.E.below fF).alloc (ag #[C D a0,C D a1,C D a2,C D a3] 78));have Dl:wo.heap.size<w7.heap.size:=KE;obtain⟨_,q1,q2,q3,_⟩:=aaj xR;clear fF uQ xR g4 c0 c1 c2 c3 c4;go_wp2_with(first
   |(at_lookup;refine aam (M:=MI) _ iN _ _ rfl mb m rc rfl rfl Oe.E Ez.E ?_;rw[mV.E])
   |(at_mapUpdate;refine WB (M:=MI) _ rfl _ _ _ rfl mb m rc Z rfl rfl rfl Oe.E Ez.E ?_;intro w8 xS qL))
  have Qk:=jk.E.size;refine⟨⟨k+1,yM m rc Z,bR,I,F.E,xS,?_,jk.E.grown qL Qk (λj hj=>by cases hj;omega),Gt.E.grown qL Ro,avh.E.grown qL afj⟩,bW⟩;intro c;rw[Wz,gP.E,Ey.E];by_cases gT:rc=c;·rw[if_pos gT,beq_iff_eq.2 gT,Bool.or_true]
  rw[if_neg gT,beq_eq_false_iff_ne.2 gT,Bool.or_false]
def Og(rs:List xP)(k:Nat)(c:Int):Bool:=(rs.take k).foldl (λv r=>if r.code=c then !r.mapped else v) X
theorem avi(hk:k<rs.length)(c:Int):Og rs (k+1) c=if(rs.getD k ay).code=c then !(rs.getD k ay).mapped else Og rs k c:=by unfold Og;rw[sD hk,List.foldl_append];simp[dO,hk]
theorem avj(hk:rs.length<=k)(c:Int):Og rs k c=Qb rs c:=by unfold Og Qb;rw[o7 hk]
theorem avk{g:sP}{e:J6}(h:Eu e.name=X):yL g e=X:=by unfold yL;rw[h];rfl
theorem avl{g:sP}{e:J6}(h:De e.cur=X):yL g e=X:=by unfold yL;rw[h];simp
theorem avm{g:sP}{e:J6}(h:ui e.jI g.jI e.links=X):yL g e=X:=by unfold yL;rw[h];simp
theorem avn{g:sP}{e:J6}(h1:Eu e.name=Z)(h2:De e.cur=Z)(h3:ui e.jI g.jI e.links=Z):yL g e= !e.links.any λx=>Qb (uO g.dL) x.az:=by unfold yL;rw[h1,h2,h3];simp
theorem avo(ls:List ib)(g mb:Nat)(m:List (Int × Bool))(aX:∀x∈ls,Od x)(A:Option aK)(n c B:Nat)(w:Y)(hr:Reads w B 3 A n (Gm ls))(hB:B<=w.heap.size)(hn:n<=9223372036854775807)(hb:BoxM g mb m w):
  aF aa 278 #[O A n c,.func (.func 279) #[] #[aQ g]] w λe w'=>e=aI (ls.any λx=>lZ m x.az)/\aj w w w':=auZ 279 #[aQ g] (λx=>lZ m x.az) (BoxM g mb m) au1 (λ_ _ h hb=>h.below hb) ls (λx hx w hw=>au3 x g mb m w (aX x hx) hw) A n c B w hr hB hn hb
theorem avp(g:gm)(x:pI)(B:Nat)(w:Y)(hg:zC w B g)(hx:Ce w B x)(hB:B<=w.heap.size)(hn:g.nc<=1000)(Tn:x.nc<=1000):
  aF aa 226 #[J7 g,Gp x] w λe w'=>e=aI (ax (yL g.p x.p))/\aj w.heap.size w w':=by
 obtain⟨cu,yr,mo,pe,Ac,nc,cc,ch,ro,Ae,ne,ce,es⟩:=g;obtain⟨nm,xu,Xc,xn,xc,Oh,Al,nl,cl,ls,jt⟩:=x;have HMV:af (∀W:Y,aj w.heap.size w W->aF aa 277 #[aD #[au ⟨nm.toArray⟩,au ⟨xu.toArray⟩,O Xc xn xc,O Al nl cl,ax jt],O Ac nc cc] W λe w'=>e=aI (ax (ui Oh ch ls))/\aj W.heap.size W w'):=λW hW=>auT ⟨nm,xu,Xc,xn,xc,Oh,Al,nl,cl,ls,jt⟩ Ac nc cc ch B W (hx.low hB (aC _) hW) (hg.ch.low hB (aC _) hW) lI Tn hn;unfold J7 Gp;have Er:=G hg.ro;have q8:=G hx.li;have nO:=hx.nm;have Oi:=hx.cu;clear hg hx;simp only[] at Er q8 hn Tn nO Oi |-;obtain⟨gp,Ha⟩:∃gp,gm.p ⟨cu,yr,mo,pe,Ac,nc,cc,ch,ro,Ae,ne,ce,es⟩=gp:=⟨_,rfl⟩;have qK:af (gp.jI=ch):=Rt;have Tm:af (gp.dL=ro):=Rt;obtain⟨xp,hxp⟩:∃xp,pI.p ⟨nm,xu,Xc,xn,xc,Oh,Al,nl,cl,ls,jt⟩=xp:=⟨_,rfl⟩;have CR:af (xp.name=nm):=YT;have HXU:af (xp.cur=xu):=YT;have HXC:af (xp.jI=Oh):=YT;have HXL:af (xp.links=ls):=YT;rw[Ha,hxp];clear Ha hxp;generalize lu:yL gp xp=ok;have HG:=G lu.symm;clear lu;have aP:=G (((aN w.heap.size w).alloc (aC _) (ag #[au ⟨cu.toArray⟩,C D yr,C D mo,C D pe,O Ac nc cc,C D ro.c0,C D ro.c1,C D ro.c2,C D ro.c3,C D ro.c4,C D ro.c5,C D ro.c6,C D ro.c7,C D ro.c8,C D ro.c9,C D ro.c10,C D ro.c11,C D ro.c12,C D ro.c13,C D ro.c14,O Ae ne ce] 29)).alloc aG (ag #[au ⟨nm.toArray⟩,au ⟨xu.toArray⟩,O Xc xn xc,O Al nl cl,ax jt] 161));have HE:=G ((ai.new w 29 #[au ⟨cu.toArray⟩,C D yr,C D mo,C D pe,O Ac nc cc,C D ro.c0,C D ro.c1,C D ro.c2,C D ro.c3,C D ro.c4,C D ro.c5,C D ro.c6,C D ro.c7,C D ro.c8,C D ro.c9,C D ro.c10,C D ro.c11,C D ro.c12,C D ro.c13,C D ro.c14,O Ae ne ce]).alloc (ag #[au ⟨nm.toArray⟩,au ⟨xu.toArray⟩,O Xc xn xc,O Al nl cl,ax jt] 161));have HX:af (ai ((w.alloc (ag #[au ⟨cu.toArray⟩,C D yr,C D mo,C D pe,O Ac nc cc,C D ro.c0,C D ro.c1,C D ro.c2,C D ro.c3,C D ro.c4,C D ro.c5,C D ro.c6,C D ro.c7,C D ro.c8,C D ro.c9,C D ro.c10,C D ro.c11,C D ro.c12,C D ro.c13,C D ro.c14,O Ae ne ce] 29)).alloc (ag #[au ⟨nm.toArray⟩,au ⟨xu.toArray⟩,O Xc xn xc,O Al nl cl,ax jt] 161)) (w.heap.size+1) 161 #[au ⟨nm.toArray⟩,au ⟨xu.toArray⟩,O Xc xn xc,O Al nl cl,ax jt]):=by have:=ai.new (w.alloc (ag #[au ⟨cu.toArray⟩,C D yr,C D mo,C D pe,O Ac nc cc,C D ro.c0,C D ro.c1,C D ro.c2,C D ro.c3,C D ro.c4,C D ro.c5,C D ro.c6,C D ro.c7,C D ro.c8,C D ro.c9,C D ro.c10,C D ro.c11,C D ro.c12,C D ro.c13,C D ro.c14,O Ae ne ce] 29)) 161 #[au ⟨nm.toArray⟩,au ⟨xu.toArray⟩,O Xc xn xc,O Al nl cl,ax jt];simp only[aW] at this;exact this
 have lY:((w.alloc (ag #[au ⟨cu.toArray⟩,C D yr,C D mo,C D pe,O Ac nc cc,C D ro.c0,C D ro.c1,C D ro.c2,C D ro.c3,C D ro.c4,C D ro.c5,C D ro.c6,C D ro.c7,C D ro.c8,C D ro.c9,C D ro.c10,C D ro.c11,C D ro.c12,C D ro.c13,C D ro.c14,O Ae ne ce] 29)).alloc (ag #[au ⟨nm.toArray⟩,au ⟨xu.toArray⟩,O Xc xn xc,O Al nl cl,ax jt] 161)).heap.size=w.heap.size+1+1:=aG;have zx:= @run_makeMap aa;go_enter func226,ntmps226;go_wp2_with fail;generalize hw0:(w.alloc _).alloc _=w0 at*;clear hw0;obtain⟨x0,x1,x2,x3,x4⟩:=Tc HX.E;refine(auF nm _ nO).mono ?_;rintro e wx ⟨rfl,rfl⟩;cases v1:Eu nm;case false=>have F:af (yL gp xp=X):=avk (by rw[CR.E];exact v1);clear v1;go_wp2_with fail;go_ret;exact⟨ik (HG.E.trans F.E).symm,aP.E⟩
 have V1:=G v1;clear v1;go_wp2_with fail;refine(ajv xu _ Oi).mono ?_;rintro e wx ⟨rfl,rfl⟩;cases v2:De xu;case false=>have F:af (yL gp xp=X):=avl (by rw[HXU.E];exact v2);clear v2;go_wp2_with fail;go_ret;exact⟨ik (HG.E.trans F.E).symm,aP.E⟩
 have V2:=G v2;clear v2;have g4:=HE.E.cell 4;simp only[iH,iX,iI] at g4;go_wp2_with fail;refine(HMV.E _ aP.E).mono ?_;rintro e w1 ⟨rfl,aB⟩;have aM:=G (aU aP.E aB);have kK:=G (HE.E.below aB I);have bO:=G (HX.E.below aB I);have ed:w.heap.size+1<w1.heap.size:=OY;clear aB g4 x0 x1 x2 x3 x4;cases v3:ui Oh ch ls;case false=>have F:af (yL gp xp=X):=avm (by rw[HXC.E,qK.E,HXL.E];exact v3);clear v3;go_wp2_with fail;go_ret;exact⟨ik (HG.E.trans F.E).symm,aM.E⟩
 have La:af (yL gp xp= !ls.any λx=>Qb (uO ro) x.az):=by have:=avn (g:=gp) (e:=xp) (by rw[CR.E];exact V1.E) (by rw[HXU.E];exact V2.E) (by rw[HXC.E,qK.E,HXL.E];exact v3);rw[HXL.E,Tm.E] at this;exact this
 clear v3;have Gq:=G ((jA.made (M:=MI) w1).alloc (ag #[.map (N w1.heap.size)] 374));have bC:=G ((aM.E.alloc I (.map #[] 0)).alloc bB (ag #[.map (N w1.heap.size)] 374));have xQ:=G ((kK.E.alloc (.map #[] 0)).alloc (ag #[.map (N w1.heap.size)] 374));have fD:=G ((bO.E.alloc (.map #[] 0)).alloc (ag #[.map (N w1.heap.size)] 374));have zm:af (ai ((w1.alloc (.map #[] 0)).alloc (ag #[.map (N w1.heap.size)] 374)) (w1.heap.size+1) 374 #[.map (N w1.heap.size)]):=by have:=ai.new (w1.alloc (.map #[] 0)) 374 #[.map (N w1.heap.size)];simp only[aW] at this;exact this
 obtain⟨g0,g1,g2,g3,g4,g5,g6,g7,g8,g9,g10,g11,g12,g13,g14,g15,g16,g17,g18,g19,g20⟩:=ac4 kK.E;have aC8:w.heap.size<w1.heap.size:=I;have H4:af (∀W:Y,aF aa 275 #[aD #[C D ro.c0,C D ro.c1,C D ro.c2,C D ro.c3,C D ro.c4,C D ro.c5,C D ro.c6,C D ro.c7,C D ro.c8,C D ro.c9,C D ro.c10,C D ro.c11,C D ro.c12,C D ro.c13,C D ro.c14]] W λe w'=>∃ad:aK,e=aI (O (N ad) 15 15)/\Reads w' w'.heap.size 5 (N ad) 15 (Gn (uO ro))/\W.heap.size<=ad.block/\aj W.heap.size W w'):=λW=>ajK ro W;go_wp2_with fail;refine(H4.E _).mono ?_;rintro e w4 ⟨ad,rfl,nE,mK,bu⟩;have dE:=G (aU bC.E bu);have sN:=G (fD.E.below bu bB);have zF:=G (Gq.E.below bu bB);have IJ:=G (zm.E.below bu aG);have adq:=G (zI.of nE I);have su:af (w1.heap.size+1<ad.block):=afl;clear nE mK bu H4 g0 g1 g2 g3 g4 g5 g6 g7 g8 g9 g10 g11 g12 g13 g14 g15 g16 g17 g18 g19 g20;have AP:af ((uO ro).length=15):=ac1 ro;have adr:af ((Gn (uO ro)).length=15*5):=ajL ro;generalize uO ro=rs at*;generalize ads:w1.heap.size=mb at*;clear ads;go_wp2_with fail;go_loopw [30] (λi wr=>∃(k:Nat) (m:List (Int × Bool)),i=C D k/\k<=15/\jA MI wr mb m/\(∀c,lZ m c=Og rs k c)/\aj w.heap.size w wr/\
  ai wr (w.heap.size+1) 161 #[au ⟨nm.toArray⟩,au ⟨xu.toArray⟩,O Xc xn xc,O Al nl cl,ax jt]/\zI wr ad (Gn rs)/\ai wr (mb+1) 374 #[.map (N mb)]) (λi _=>15-(intOf i).toNat)
 case atStart=>exact⟨0,[],rfl,I,zF.E,λ_=>rfl,dE.E,sN.E,adq.E,IJ.E⟩
 obtain⟨k,m,rfl,hk,hm,IL,aH,fq,WM,dU⟩:=hrel;obtain⟨wo,rfl⟩:=dz wr;have HM:=G hm;have Ey:=G IL;have WN:=G fq;have Dj:=G WM;have uk:=G dU;have LM:=fq.lt;have aC9:=dU.lt;have b0:=dU.cell 0;simp only[iH,iI] at b0;clear hm IL WM dU;by_cases aO:k<15;case neg=>
  have k3:decide ((k:Int)<15)=X:=fI;obtain⟨_,_,_,x3,_⟩:=Tc fq;have Au:=G (avo ls (mb+1) mb m q8.E.ok Al nl cl B wo (q8.E.rd.fV hB (aC _) aH) YZ q8.E.le ⟨uk.E,HM.E⟩);have Tp:af ((ls.any λx=>lZ m x.az)=ls.any λx=>Qb rs x.az):=by show _=_;congr 1;funext x;rw[Ey.E,avj (by rw[AP.E];omega)]
  go_wp2_with fail;refine Au.E.mono ?_;rintro e w9 ⟨rfl,rO⟩;rw[Tp.E];have yN:=G (aU aH rO);clear rO Au;generalize(ls.any λx=>Qb rs x.az)=av at*;go_wp2_with fail;go_ret;exact⟨ik (HG.E.trans La.E).symm,yN.E⟩
 have b15:(k:Int)<15:=I;have dA:k<rs.length:=by rw[AP.E];exact aO
 obtain⟨Hf,Cg,jM,c0,c1,c2,c3,c4⟩:=(Dj.E.reads adr.E).ai2 aO;injection Cg with Cg;subst Cg;have LU:=G (Er.E (rs.getD k ay) OX);have gP:af (∀c:Int,Og rs (k+1) c=if(rs.getD k ay).code=c then !(rs.getD k ay).mapped else Og rs k c):=λc=>avi dA c;clear dA fq;generalize rs.getD k ay=x at*;obtain⟨Gr,rc,rk,rb,rm⟩:=x;simp only[] at c0 c1 c2 c3 c4 gP LU;have Ez:af (MI.ok rc):=LU.E;have fM:=aH.size;have eY:=G (aH.alloc fM (ag #[au ⟨Gr.toArray⟩,C D rc,C D rk,C D rb,ax rm] 390));have wU:=G (HM.E.alloc (ag #[au ⟨Gr.toArray⟩,C D rc,C D rk,C D rb,ax rm] 390));have Eh:=G (WN.E.alloc (ag #[au ⟨Gr.toArray⟩,C D rc,C D rk,C D rb,ax rm] 390));have adt:=G (Dj.E.alloc (ag #[au ⟨Gr.toArray⟩,C D rc,C D rk,C D rb,ax rm] 390));have avq:=G (uk.E.alloc (ag #[au ⟨Gr.toArray⟩,C D rc,C D rk,C D rb,ax rm] 390));go_wp2_with(at_mapUpdate;refine WB (M:=MI) _ rfl _ _ _ rfl mb m rc (!rm) rfl rfl rfl wU.E Ez.E ?_;intro w8 xS qL);refine⟨⟨k+1,yM m rc (!rm),bR,I,xS,?_,eY.E.grown qL bB (λj hj=>by cases hj;omega),Eh.E.grown qL Ro,adt.E.grown qL afj,avq.E.grown qL Ro⟩,bW⟩;intro c;rw[Wz,gP.E,Ey.E]
theorem JA:(aa.info? 29).map (·.size)=N 21:=by kernel_rfl
theorem vO{ops:Array Oper}{rest:List Oper}{o:Oper}{a:Act}{Q:Exit->Act->Y->Prop}(hw:sZ o (yielded ops a.tmps)=Z)(x:Operand)(ho:o.op= .load 29 x)
  (g:Nat) (hx:a.eval x=aQ g) (cs:Array ak) (hs:cs.size=21) (hg:ai w g 29 cs) (h:wpList aa ops Q rest (a.put o.dst (aD cs)) w):wpList aa ops Q (o::rest) a w:=BigFrame.wpList_want hw λK hK=>wp_load_row 29 x ho g hx 29 cs (0,0) _ hg underlying29 rfl (by rw[JA,hs]) (hK _ _ h)
theorem avr{g:sP}(h:De g.cur=X):sS g=X:=by unfold sS;rw[h];rfl
theorem avs{g:sP}(h:AU g.year g.month g.Cb=X):sS g=X:=by unfold sS;rw[h];simp
theorem avt{g:sP}(h:sQ g=X):sS g=X:=by unfold sS;rw[h];simp
theorem adu{g:sP}(h:Gj g=X):sS g=X:=by unfold sS;rw[h];simp
theorem avu{g:sP}(hk:k<g.dS.length)(h:N9 g k=X):sS g=X:=by unfold sS;rw[WG hk h];simp
theorem avv{g:sP}(h1:De g.cur=Z)(h2:AU g.year g.month g.Cb=Z)(h3:sQ g=Z)(h4:Gj g=Z)(h5:(rQ g.dS.length).all (N9 g)=Z):sS g=Z:=by unfold sS;rw[h1,h2,h3,h4,h5];rfl
theorem getD_map{β:Type}[Inhabited α][Inhabited β](f:α->β)(hf:f ay=ay)(l:List α)(k:Nat):(l.map f).getD k ay=f (l.getD k ay):=by
 simp only[Et,xy];cases l[k]? with
 |none=>exact hf.symm
 |some x=>rfl
theorem avw{es:List J6}(hk:k<es.length)(s:List UInt8):LG es (k+1) s=(LG es k s||(es.getD k ay).name==s):=adl hk
theorem avx{g:sP}(h:¬1<=g.dS.length):Gj g=X:=by unfold Gj;rw[decide_eq_false h];rfl
theorem avy{g:sP}(h:¬g.dS.length<=12):Gj g=X:=by unfold Gj;rw[decide_eq_false h];simp
theorem avz{g:sP}(h:(g.dS.getD 0 ay).joint=Z):Gj g=X:=by unfold Gj;rw[h];simp
theorem avA{g:sP}(h1:1<=g.dS.length)(h2:g.dS.length<=12)(h3:(g.dS.getD 0 ay).joint=X):Gj g=Z:=by unfold Gj;rw[decide_eq_true h1,decide_eq_true h2,h3];rfl
theorem avB(g:gm)(B:Nat)(w:Y)(hg:zC w B g)(hB:B<=w.heap.size)(hn:g.nc<=1000)(Ga:∀x∈g.dS,x.nc<=1000):
  aF aa 171 #[J7 g] w λe w'=>e=aI (sS g.p)/\aj w w w':=by
 have aar:af (∀x∈g.dS,∀W:Y,aj w w W->aF aa 226 #[J7 g,Gp x] W λe w'=>e=aI (yL g.p x.p)/\aj W W w'):=λx hx W hW=>avp g x B W (hg.low hB (aC _) hW) ((hg.ok x hx).low hB (aC _) hW) lI hn (Ga x hx);have aas:af (∀W:Y,aj w w W->aF aa 225 #[J7 g] W λe w'=>e=aI (sQ g.p)/\aj W W w'):=λW hW=>ave g B W (hg.low hB (aC _) hW) lI hn;have C8:af (g.p.dS.length=g.ne):=by show _=_;unfold gm.p;rw[oz,Oc hg.en]
 have WO:af (∀k,g.p.dS.getD k ay=(g.dS.getD k ay).p):=λk=>getD_map pI.p rfl g.dS k;have ajM:=G (Oc hg.en);obtain⟨cu,yr,mo,pe,Ac,nc,cc,ch,ro,Ae,ne,ce,es⟩:=g;unfold J7 at aar aas |-;have ED:=G hg.en;have dI:=G hg.ok;have Ch:=G hg.cu;clear hg Ga;simp only[] at ED dI Ch aar aas C8 WO ajM |-;obtain⟨gp,Ha⟩:∃gp,gm.p ⟨cu,yr,mo,pe,Ac,nc,cc,ch,ro,Ae,ne,ce,es⟩=gp:=⟨_,rfl⟩;have HGU:af (gp.cur=cu):=Rt;have HGY:af (AU gp.year gp.month gp.Cb=AU yr mo pe):=Rt;rw[Ha] at aar aas C8 WO |-;clear Ha;generalize lu:sS gp=ok;have HG:=G lu.symm;clear lu;have jw:=G ((aN w w).alloc (aC _) (ag #[cu,yr,mo,pe,O Ac nc cc,ro.c0,ro.c1,ro.c2,ro.c3,ro.c4,ro.c5,ro.c6,ro.c7,ro.c8,ro.c9,ro.c10,ro.c11,ro.c12,ro.c13,ro.c14,O Ae ne ce] 29));have HE:=G (ai.new w 29 #[cu,yr,mo,pe,O Ac nc cc,ro.c0,ro.c1,ro.c2,ro.c3,ro.c4,ro.c5,ro.c6,ro.c7,ro.c8,ro.c9,ro.c10,ro.c11,ro.c12,ro.c13,ro.c14,O Ae ne ce]);have zx:= @run_makeMap aa;go_enter func171,ntmps171;go_wp2_with fail;have lY:(w.alloc (ag #[cu,yr,mo,pe,O Ac nc cc,ro.c0,ro.c1,ro.c2,ro.c3,ro.c4,ro.c5,ro.c6,ro.c7,ro.c8,ro.c9,ro.c10,ro.c11,ro.c12,ro.c13,ro.c14,O Ae ne ce] 29)).heap.size=w.heap.size+1:=aG;generalize hw0:w.alloc _=w0 at*;clear hw0;refine(ajv cu _ Ch).mono ?_;rintro e wx ⟨rfl,rfl⟩;cases v1:De cu;case false=>have F:af (sS gp=X):=avr (by rw[HGU.E];exact v1);clear v1;go_wp2_with fail;go_ret;exact⟨ik (HG.trans F).symm,jw⟩
 have V1:=G v1;clear v1;obtain⟨g0,g1,g2,g3,_⟩:=ac4 HE;go_wp2_with fail;refine(aaq yr mo pe _).mono ?_;rintro e w1 ⟨rfl,aB⟩;have aM:=G (aU jw aB);have kK:=G (HE.below aB I);have ed:w.heap.size<w1.heap.size:=OY;clear aB jw g0 g1 g2 g3;have jw:=aM;cases v2:AU yr mo pe;case false=>have F:af (sS gp=X):=avs (by rw[HGY.E];exact v2);clear v2;go_wp2_with fail;go_ret;exact⟨ik (HG.trans F).symm,jw⟩
 have V2:=G v2;clear v2;go_wp2_with(refine vO iN _ rfl _ rfl _ rfl kK ?_);refine(aas _ aM).mono ?_;rintro e w2 ⟨rfl,aJ⟩;have aS:=G (aU aM aJ);have q9:=G (kK.below aJ ed);have fw:w.heap.size<w2.heap.size:=abL;clear aJ jw;have jw:=aS;cases v3:sQ gp;case false=>have F:af (sS gp=X):=avt v3;clear v3;go_wp2_with fail;go_ret;exact⟨ik (HG.trans F).symm,jw⟩
 have V3:=G v3;clear v3;have g20:=q9.cell 20;simp only[iH,iX,iI] at g20;by_cases h1:1<=ne;case neg=>have d1:decide ((ne:Int)<1)=Z:=jO;have F:af (sS gp=X):=adu (avx (by rw[C8.E];exact h1));go_wp2_with fail;go_ret;exact⟨ik (HG.trans F).symm,jw⟩
 have d1:decide ((ne:Int)<1)=X:=fI;by_cases h12:ne<=12;case neg=>have d2:decide ((12:Int)<(ne:Int))=Z:=jO;have F:af (sS gp=X):=adu (avy (by rw[C8.E];exact h12));go_wp2_with fail;go_ret;exact⟨ik (HG.trans F).symm,jw⟩
 have d2:decide ((12:Int)<(ne:Int))=X:=fI;obtain⟨ad,rfl,_,j0,j1,j2,j3,j4⟩:=(ED.fV hB (aC _) aS).Ta (k:=0) I;have HJ:af ((gp.dS.getD 0 ay).joint=(es.getD 0 ay).joint):=by show _=_;rw[WO.E];rfl
 generalize(es.getD 0 ay).joint=jn at*;simp only[Nat.zero_mul,show ad.add 0=ad from rfl] at j4;clear j0 j1 j2 j3;cases jn;case true=>have F:af (sS gp=X):=adu (avz HJ);go_wp2_with fail;go_ret;exact⟨ik (HG.trans F).symm,jw⟩
 have V4:af (Gj gp=Z):=avA (by rw[C8.E];exact h1) (by rw[C8.E];exact h12) HJ;have Gq:=G (jA.made (M:=MS) w2);have bC:=G (aS.alloc I (.map #[] 0));have xQ:=G (q9.alloc (.map #[] 0));go_wp2_with fail;clear g20 j4;go_loopw [44] (λi wr=>∃(k:Nat) (m:List (List UInt8 × Bool)),i=C D k/\k<=ne/\(rQ k).all (N9 gp)=Z/\jA MS wr w2 m/\(∀s,lZ m s=LG gp.dS k s)/\aj w w wr/\
  ai wr w 29 #[cu,yr,mo,pe,O Ac nc cc,ro.c0,ro.c1,ro.c2,ro.c3,ro.c4,ro.c5,ro.c6,ro.c7,ro.c8,ro.c9,ro.c10,ro.c11,ro.c12,ro.c13,ro.c14,O (N ad) ne ce]) (λi _=>ne-(intOf i).toNat)
 case atStart=>exact⟨0,[],rfl,I,rfl,Gq,λ_=>rfl,bC,xQ⟩
 obtain⟨k,m,rfl,hk,hd,hm,IL,aH,fq⟩:=hrel;obtain⟨wo,rfl⟩:=dz wr;have HD:=G hd;have HM:=G hm;have Ey:=G IL;have BP:=G fq;have LM:=fq.lt;have II:=hm.lt;clear hd hm IL;by_cases aO:k<ne;case neg=>have F:af (sS gp=Z):=avv (by rw[HGU.E];exact V1) (by rw[HGY.E];exact V2) V3 V4 (by rw[C8.E,show ne=k by omega];exact HD);clear fq;go_wp2_with fail;go_ret;exact⟨ik (HG.trans F).symm,aH⟩
 have b15:(k:Int)<(ne:Int):=I;have dA:k<es.length:=by rw[ajM.E];exact aO
 obtain⟨Hf,Cg,jM,c0,c1,c2,c3,c4⟩:=(ED.fV hB (aC _) aH).Ta aO;injection Cg with Cg;subst Cg;have dK:es.getD k ay∈es:=OX;have HEX:=G (aar _ dK);have vF:=G (dI _ dK).nm;have qJ:af (N9 gp k=X->sS gp=X):=λh=>avu (by rw[C8.E];exact aO) h;have kX:af (N9 gp k=(!LG gp.dS k (es.getD k ay).name&&yL gp (es.getD k ay).p)):=by show _=_;unfold N9;rw[WO.E];rfl
 have gP:af (∀s,LG gp.dS (k+1) s=(LG gp.dS k s||(es.getD k ay).name==s)):=λs=>by have:=avw (es:=gp.dS) (k:=k) (by rw[C8.E];exact aO) s;rw[WO.E] at this;exact this
 have AZ:af (lZ m (es.getD k ay).name=LG gp.dS k (es.getD k ay).name):=Ey _;clear dA dK;generalize es.getD k ay=x at*;obtain⟨nm,xu,Xc,xn,xc,Oh,Al,nl,cl,ls,jt⟩:=x;unfold Gp at HEX;simp only[] at c0 c1 c2 c3 c4 HEX vF kX gP AZ;have Ez:af (MS.ok nm):=vF;have fM:=aH.size;have eY:=G (aH.alloc fM (ag #[nm,xu,O Xc xn xc,O Al nl cl,jt] 161));have wU:=G (HM.alloc (ag #[nm,xu,O Xc xn xc,O Al nl cl,jt] 161));have Gs:=G (BP.alloc (ag #[nm,xu,O Xc xn xc,O Al nl cl,jt] 161));have zJ:=G (ai.new wo 161 #[nm,xu,O Xc xn xc,O Al nl cl,jt]);clear fq;cases sv:LG gp.dS k nm;case true=>have F:af (sS gp=X):=qJ (by rw[kX.E,sv];simp);have mV:af (lZ m nm=Z):=AZ.trans sv;clear sv;go_wp2_with(at_lookup;refine WA (M:=MS) _ rfl _ _ rfl w2.heap.size m nm rfl rfl wU Ez ?_;rw[mV.E]);go_ret;exact⟨ik (HG.trans F).symm,eY⟩
 have mV:af (lZ m nm=X):=AZ.trans sv;generalize hev:yL gp (pI.p ⟨nm,xu,Xc,xn,xc,Oh,Al,nl,cl,ls,jt⟩)=ev at*;have LV:af (N9 gp k=ev):=by show _=_;rw[kX.E,sv];simp
 clear sv hev kX;go_wp2_with(first|(at_lookup;refine WA (M:=MS) _ rfl _ _ rfl w2.heap.size m nm rfl rfl wU Ez ?_;rw[mV.E])|(refine vO iN _ rfl _ rfl _ rfl Gs ?_));refine(HEX _ eY).mono ?_;rintro e w7 ⟨rfl,fF⟩;have jk:=G (aU eY fF);have Oe:=G (wU.below fF bB);have Gt:=G (Gs.below fF bB);have xR:=zJ.below fF aG;obtain⟨q0,_,_,_,_⟩:=Tc xR;have Dl:=jk.size;clear fF xR c0 c1 c2 c3 c4;cases ev;case false=>have F:af (sS gp=X):=qJ LV;go_wp2_with fail;go_ret;exact⟨ik (HG.trans F).symm,jk⟩
 have F:=G (WE HD LV);go_wp2_with(at_mapUpdate;refine WB (M:=MS) _ rfl _ _ _ rfl w2.heap.size m nm Z rfl rfl rfl Oe Ez ?_;intro w8 xS qL);refine⟨⟨k+1,yM m nm Z,bR,I,F,xS,?_,jk.grown qL Dl (λj hj=>by cases hj;omega),Gt.grown qL Ro⟩,bW⟩;intro s;rw[Wz,gP.E,Ey.E];by_cases gT:nm=s;·rw[if_pos gT,beq_iff_eq.2 gT,Bool.or_true]
 rw[if_neg gT,beq_eq_false_iff_ne.2 gT,Bool.or_false]
end Go.Proofs.YtgnflmdpalmejaaGreatDoor
