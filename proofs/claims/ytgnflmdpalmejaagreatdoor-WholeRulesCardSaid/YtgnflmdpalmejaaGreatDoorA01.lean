/- Lemmas for the proof of WholeRules (the card is in the file ..WholeRulesCard); each lemma names its own conditions. -/
import Derived.Test.YtgnflmdpalmejaaGreatDoorA00
import Derived.Deep.DeepCutAuto
import Derived.Deep.LoopGhost
import Derived.Deep.RegionHeldLaw
import Derived.Deep.RegionWith
import Derived.Deep.WholeRow
import Derived.IntWalk
import Derived.Laws.RangeAny
import Derived.Laws.RangeString
import Derived.StillTactics
namespace Go.Proofs.YtgnflmdpalmejaaGreatDoor
open And renaming intro->bI
open Bool renaming and_eq_true->bq,eq_iff_iff->FH,false->X,false_eq_true->lK,true->Z
open Go.Act renaming put->uB
open Go renaming Addr->aK,Calls->aF,TypeId->bM,Value->ak,World->Y,bodyPost_ret->eX,wp_region_held_drew->iA
open Go.Calls renaming quiet_of_same->Ph
open Go.Ending renaming returned->aI
open Go.Instr renaming index->KW
open Go.IntKind renaming i64->D
open Go.Lib renaming decDigits->M7,itoa->iG
open Go.Obj renaming cells->ag
open Go.Oper renaming wp->yt
open Go.Region renaming ready->RJ
open Go.RowKit renaming Below->aj
open Go.RowKit.Below renaming heap_alloc->nK,heap_setCell->jm,refl->aN
open Go.Value renaming agg->aD,bool->ax,int->C,pointer->aQ,slice->O,string->au,tuple->bz
open Go.World renaming cell?_of_block->He,ownsRow_nil->ng,setCell->Bp,size_alloc->aW,size_drew->G7
open Inhabited renaming default->ay
open List renaming all_cons->zh,all_eq_true->xD,append_assoc->xw,cons_append->o6,contains_iff_mem->Vq,drop_drop->YV,drop_eq_getElem_cons->DY,drop_eq_nil_iff->JC,drop_zero->Vn,flatMap_cons->Hq,foldl_cons->M8,getD->dO,getElem?_cons_succ->iX,getElem?_cons_zero->iI,getElem?_toArray->iH,getElem_cons_succ->uE,getElem_cons_zero->uD,getElem_mem->rF,getElem_toArray->uC,length_append->eB,length_cons->iP,length_drop->MM,length_singleton->mf,length_take->xq,map_cons->kE,mem_cons->jZ,mem_of_find?_eq_some->RU,mem_of_getElem?->Jr,nil_append->wF,not_mem_nil->nJ,setIfInBounds_toArray->pY,set_cons_succ->oP,set_cons_zero->oh,take_length->Nb,take_of_length_le->o7,take_succ_eq_append_getElem->sD
open Nat renaming add_zero->mZ,le_refl->aC,le_trans->ja,lt_of_lt_of_le->yA,lt_or_ge->jl,min_eq_left->Nc,zero_le->FI
open Option renaming bind_some->bZ,map_some->qh,none->J,some->N
open UInt8 renaming ofNat->Ve
open Go.Proofs.Tryz renaming prog->aa
open Go.RowKit Go.Lib Go.Proofs.Tryz
set_option maxRecDepth 100000
set_option maxHeartbeats 32000000
set_option linter.unusedVariables false
set_option linter.unusedSimpArgs false
variable{B g g6 k k' k1 k2 n n' n0 q:Nat}{CO b2 bad:Bool}{P:Program}{Q:Exit->Act->Y->Prop}{R:Prop}{W W' w w':Y}{d f kv v:ak}{hi kd lo:Int}{o:Oper}{tmps:Array ak}{α:Type}
def isLet(b:UInt8):Bool:=decide (97<=b.toNat)&&decide (b.toNat<=122)
def wC(b:UInt8):Bool:=isLet b||jo b||b==95
def CF(b:UInt8):Bool:=b==32||b==9||b==10||b==13
theorem afP{b:UInt8}:isLet b=Z↔97<=b.toNat/\b.toNat<=122:=by simp[isLet]
def dG:Bool->List UInt8->Nat
 |_,[]=>0
 |true,c::r=>(if c==10 then dG X r else dG Z r)+1
 |false,c::r=>if c==35 then dG Z r+1 else if CF c then dG X r+1 else 0
def lW(p:UInt8->Bool):List UInt8->Nat
 | []=>0
 |c::r=>if p c then lW p r+1 else 0
def qa:List (List UInt8):= [[46,46],[60,61],[62,61],[33,61]]
def Hl:List UInt8:= [123,125,40,41,44,59,61,43,45,42,60,62]
def dB(l:List UInt8):Int × Nat:=
 match l with
 | []=>(0,0)
 |c::r=>if isLet c then(1,lW wC l) else if jo c then(2,lW jo l) else if qa.contains (l.take 2) then(3,2) else if Hl.contains c then(3,1) else(0,0)
def CG(l:List UInt8):Bool:=isNum l&&decide (p9 l<=1000000000000)
structure Tok where
 kind:Int
 text:List UInt8
 from_:Int
variable{ts:List Tok}
def Br(k:Int)(t:List UInt8):Bool:=(k==1&&decide (16<t.length))||(k==2&& !CG t)
abbrev TR:=Except (Int × Int) (List Tok)
variable{cK:TR}
def O7(t:Tok):TR->TR
 | .ok l=> .ok (t::l)
 | .error e=> .error e
def iK:Nat->List UInt8->Nat->TR
 |0,_,_=> .ok []
 |f+1,r,at_=>
  if r.drop (dG X r)= [] then .ok []
  else if(dB (r.drop (dG X r))).1=0 then .error ((at_+dG X r:Nat),3)
  else if Br (dB (r.drop (dG X r))).1 ((r.drop (dG X r)).take (dB (r.drop (dG X r))).2) then .error ((at_+dG X r:Nat),6)
  else O7 ⟨(dB (r.drop (dG X r))).1,(r.drop (dG X r)).take (dB (r.drop (dG X r))).2,(at_+dG X r:Nat)⟩
   (iK f ((r.drop (dG X r)).drop (dB (r.drop (dG X r))).2) (at_+dG X r+(dB (r.drop (dG X r))).2))
def qA(l:List UInt8):TR:=if 8000<l.length then .error (8000,6) else iK (l.length+1) l 0
def glue(acc:List Tok):TR->TR
 | .ok l=> .ok (acc++l)
 | .error e=> .error e
theorem anU(x:TR):glue [] x=x:=by cases x<;>rfl
theorem anV(acc:List Tok)(t:Tok)(x:TR):glue acc (O7 t x)=glue (acc++ [t]) x:=by cases x<;>simp[glue,O7]
def RP:TR->List Tok| .ok l=>l| .error _=> []
def Vf:TR->Int| .ok _=>0| .error e=>e.1
def Na:TR->Int| .ok _=>0| .error e=>e.2
theorem afQ:∀(l:List UInt8) (c:Bool),dG c l<=l.length:=by
 intro l;induction l with
 |nil=>intro c;cases c<;>simp[dG]
 |cons x r ih=>intro c;have h1:=ih Z;have h2:=ih X;cases c<;>simp only[dG,iP]<;>(repeat' split)<;>omega
theorem Zc(p:UInt8->Bool):∀l:List UInt8,lW p l<=l.length:=by
 intro l;induction l with
 |nil=>simp[lW]
 |cons x r ih=>simp only[lW,iP];split<;>omega
theorem afR(p:UInt8->Bool):∀l:List UInt8,(l.take (lW p l)).all p=Z:=by
 intro l;induction l with
 |nil=>simp[lW]
 |cons x r ih=>
  simp only[lW];split;·rename_i h;simp[h];simpa using ih
  simp
theorem abQ{p:UInt8->Bool}:∀ {l:List UInt8} {k:Nat},k<=l.length->(l.take k).all p=Z->(k<l.length->p (l.getD k 0)=X)->lW p l=k:=by
 intro l;induction l with
 |nil=>intro k h _ _;simp at h;simp[lW,h]
 |cons x r ih=>
  intro k hk ha hs;cases k with
  |zero=>have:=hs aG;simp at this;simp[lW,this]
  |succ k=>simp only[List.take_succ_cons,zh,bq] at ha;simp only[lW,if_pos ha.1];have:=ih (k:=k) MR ha.2 (λh=>by simpa using hs CB);omega
theorem Vg{p:UInt8->Bool}{l:List UInt8}:lW p l=l.length↔l.all p=Z:=by
 constructor;·intro h;have:=afR p l;rwa [h,Nb] at this
 intro h;exact abQ (aC _) (by rwa [Nb]) (λh=>absurd h I)
theorem RQ{l:List UInt8}(h:(dB l).1≠0):1<=(dB l).2:=by
 cases l with
 |nil=>simp[dB] at h
 |cons c r=>
  simp only[dB] at h |-;by_cases h1:isLet c=Z
  ·have:wC c=Z:=by simp[wC,h1]
   simp[h1,lW,this]
  by_cases h2:jo c=Z;·simp[h1,h2,lW]
  simp only[h1,h2] at h |-;simp only[lK,if_false] at h |-;(repeat' split)<;>simp_all
theorem Zd{l:List UInt8}:(dB l).2<=l.length:=by
 cases l with
 |nil=>simp[dB]
 |cons c r=>
  have a:=Zc wC (c::r);have b:=Zc jo (c::r);simp only[dB];by_cases h1:isLet c=Z;·simp only[h1,if_true];exact a
  by_cases h2:jo c=Z;·simp only[h1,h2,lK,if_false,if_true];exact b
  simp only[h1,h2,lK,if_false];split
  ·rename_i h;simp only[qa,List.contains_eq_mem,jZ,nJ,or_false,decide_eq_true_eq] at h;cases r with
   |nil=>simp at h
   |cons d r=>simp
  split<;>simp
theorem anW(l:List UInt8):(dB l).1=0\/(dB l).1=1\/(dB l).1=2\/(dB l).1=3:=by
 cases l with
 |nil=>simp[dB]
 |cons c r=>simp only[dB];(repeat' split)<;>simp
section
variable{r q:List UInt8}{f at_ k n:Nat}{kd:Int}
theorem anX(h:dG X r=r.length):iK (f+1) r at_= .ok []:=by simp[iK,h]
theorem abR(h:dG X r≠r.length):r.drop (dG X r)≠ []:=by have:=afQ r X;intro e;have:=JC.1 e;omega
theorem anY(hs:dG X r=k)(hk:k<r.length)(hn:(dB (r.drop k)).1=0):iK (f+1) r at_= .error ((at_+k:Nat),3):=by subst hs;simp only[iK];rw[if_neg (abR I),if_pos hn]
theorem anZ(hs:dG X r=k)(hk:k<r.length)(hn:dB (r.drop k)=(kd,n))(h0:kd≠0)(hb:Br kd ((r.drop k).take n)=Z):iK (f+1) r at_= .error ((at_+k:Nat),6):=by subst hs;simp only[iK];rw[if_neg (abR I),hn,if_neg h0,if_pos hb]
theorem afS(hs:dG X r=k)(hk:k<r.length)(hn:dB (r.drop k)=(kd,n))(h0:kd≠0)(hb:Br kd ((r.drop k).take n)=X):
  iK (f+1) r at_=O7 ⟨kd,(r.drop k).take n,(at_+k:Nat)⟩ (iK f ((r.drop k).drop n) (at_+k+n)):=by subst hs;simp only[iK];rw[if_neg (abR I),hn,if_neg h0,if_neg (by rw[hb];simp)]
end
theorem an0:∀(n:Nat) (r:List UInt8) (f g at_:Nat),r.length<n->r.length<f->r.length<g->iK f r at_=iK g r at_:=by
 intro n;induction n with
 |zero=>intro r f g at_ h;omega
 |succ n ih=>
  intro r f g at_ hn hf hg;cases f with
  |zero=>omega
  |succ f=>
   cases g with
   |zero=>omega
   |succ g=>
    simp only[iK];by_cases h1:r.drop (dG X r)= [];·rw[if_pos h1,if_pos h1]
    rw[if_neg h1,if_neg h1];by_cases h2:(dB (r.drop (dG X r))).1=0;·rw[if_pos h2,if_pos h2]
    rw[if_neg h2,if_neg h2];have hp:=RQ h2;have hl:(r.drop (dG X r)).length<=r.length:=aG;have hl0:0<(r.drop (dG X r)).length:=List.length_pos_iff.2 h1;split;·rfl
    rw[ih _ f g];all_goals(rw[MM];omega)
def shape:TR->Option (List (Int × List UInt8))
 | .ok l=>N (l.map λt=>(t.kind,t.text))
 | .error _=>J
theorem abS(t:Tok)(x:TR):shape (O7 t x)=(shape x).map ((t.kind,t.text):: ·):=by cases x<;>rfl
theorem an1:∀(f:Nat) (r:List UInt8) (a b:Nat),shape (iK f r a)=shape (iK f r b):=by
 intro f;induction f with
 |zero=>intro r a b;rfl
 |succ f ih=>
  intro r a b;simp only[iK];by_cases h1:r.drop (dG X r)= [];·rw[if_pos h1,if_pos h1]
  rw[if_neg h1,if_neg h1];by_cases h2:(dB (r.drop (dG X r))).1=0;·rw[if_pos h2,if_pos h2];rfl
  rw[if_neg h2,if_neg h2];split;·rfl
  rw[abS,abS,ih _ _ (b+dG X r+(dB (r.drop (dG X r))).2)]
structure Good(t:Tok):Prop where
 ne:t.text≠ []
 next:dB t.text=(t.kind,t.text.length)
 kind:t.kind≠0
 fine:Br t.kind t.text=X
 head:dG X t.text=0
theorem afT(p:UInt8->Bool):∀l:List UInt8,lW p (l.take (lW p l))=lW p l:=by
 intro l;have h:=afR p l;have hl:(l.take (lW p l)).length=lW p l:=by rw[xq];have:=Zc p l;omega
 rw[Vg.2 h,hl]
theorem an2{q:List UInt8}(h:(dB q).1≠0):dB (q.take (dB q).2)=dB q:=by
 cases q with
 |nil=>simp[dB] at h
 |cons c r=>
  have hp:=RQ h;have e:∀n,1<=n->(c::r).take n=c::r.take (n-1):=by intro n hn;obtain⟨m,rfl⟩:∃m,n=m+1:=⟨n-1,I⟩;simp
  by_cases h1:isLet c=Z
  ·have hn:dB (c::r)=(1,lW wC (c::r)):=by simp[dB,h1]
   rw[hn] at hp |-;have ht:=afT wC (c::r);simp only at hp |-;rw[e _ hp] at ht |-;simp only[dB,h1,if_true,ht]
  by_cases h2:jo c=Z
  ·have hn:dB (c::r)=(2,lW jo (c::r)):=by simp[dB,h1,h2]
   rw[hn] at hp |-;have ht:=afT jo (c::r);simp only at hp |-;rw[e _ hp] at ht |-;simp only[dB,h1,h2,lK,if_false,if_true,ht]
  by_cases h3:qa.contains ((c::r).take 2)=Z
  ·have hn:dB (c::r)=(3,2):=by simp only[dB,h1,h2,h3,lK,if_false,if_true]
   rw[hn];have:((c::r).take 2).take 2=(c::r).take 2:=by rw[List.take_take];rfl
   have h3':qa.contains (((c::r).take 2).take 2)=Z:=by rw[this];exact h3
   rw[e 2 I] at h3' |-;simp only[dB,h1,h2,h3',lK,if_false,if_true]
  by_cases h4:Hl.contains c=Z
  ·have hn:dB (c::r)=(3,1):=by simp only[dB,h1,h2,h3,h4,lK,if_false,if_true]
   rw[hn];have:qa.contains ([c]:List UInt8)=X:=by simp[qa]
   simp only[List.take_succ_cons,List.take_zero,dB,h1,h2,h4,this,List.take_nil,lK,if_false,if_true]
  exfalso;apply h;simp only[dB,h1,h2,h3,h4,lK,if_false]
theorem an3{q:List UInt8}(h:(dB q).1≠0):dG X (q.take (dB q).2)=0:=by
 cases q with
 |nil=>simp[dB] at h
 |cons c r=>
  have hp:=RQ h;obtain⟨m,hm⟩:∃m,(dB (c::r)).2=m+1:=⟨(dB (c::r)).2-1,I⟩;rw[hm,List.take_succ_cons];by_cases hc:CF c=Z\/c=35
  ·exfalso;apply h;have:c=32\/c=9\/c=10\/c=13\/c=35:=by
    rcases hc with hc|hc;·simp only[CF,Bool.or_eq_true,beq_iff_eq] at hc;rcases hc with((hc|hc)|hc)|hc<;>simp[hc]
    simp[hc]
   rcases this with rfl|rfl|rfl|rfl|rfl<;>simp[dB,isLet,jo,qa,Hl]
  have h1:¬CF c=Z:=λx=>hc (.inl x);have h2:¬(c==35)=Z:=λx=>hc (.inr (by simpa using x));simp only[dG,h1,h2,lK,if_false]
theorem an4:∀(f:Nat) (r:List UInt8) (at_:Nat) (ts:List Tok),iK f r at_= .ok ts->∀t∈ts,Good t:=by
 intro f;induction f with
 |zero=>intro r at_ ts h t ht;simp only[iK,Except.ok.injEq] at h;subst h;simp at ht
 |succ f ih=>
  intro r at_ ts h t ht;simp only[iK] at h;by_cases h1:r.drop (dG X r)= [];·rw[if_pos h1] at h;injection h with h;subst h;simp at ht
  rw[if_neg h1] at h;generalize hq:r.drop (dG X r)=q at*;by_cases h2:(dB q).1=0;·rw[if_pos h2] at h;cases h
  rw[if_neg h2] at h;cases hb:Br (dB q).1 (q.take (dB q).2)
  ·rw[hb] at h;simp only[lK,if_false] at h;cases hr:iK f (q.drop (dB q).2) (at_+dG X r+(dB q).2) with
   |error e=>rw[hr] at h;cases h
   |ok l=>
    rw[hr] at h;injection h with h;subst h;rcases jZ.1 ht with rfl|ht
    ·refine⟨?_,?_,h2,hb,an3 h2⟩
     ·intro e;have:=RQ h2;have hl:=Zd (l:=q);have:(q.take (dB q).2).length=0:=by rw[show q.take (dB q).2= [] from e];rfl
      rw[xq] at this;omega
     show dB (q.take (dB q).2)=((dB q).1,(q.take (dB q).2).length);rw[an2 h2,xq,Nc Zd]
    exact ih _ _ _ hr t ht
  rw[hb] at h;simp at h
abbrev Tk:=Int × List UInt8
structure lL where
 kind:Int
 value:Int
 from_:Int
 az:Int
 name:List UInt8
deriving DecidableEq
variable{h:lL}
instance:Inhabited lL:=⟨⟨0,0,0,0,[]⟩⟩
inductive Ex where
 |lf (h:lL)
 |un (h:lL) (a:Ex)
 |bi (h:lL) (a b:Ex)
variable{x:Ex}
instance:Inhabited Ex:=⟨.lf ay⟩
def Ex.hd:Ex->lL
 | .lf h=>h
 | .un h _=>h
 | .bi h _ _=>h
def Ex.ar:Ex->Nat
 | .lf _=>0
 | .un _ _=>1
 | .bi _ _ _=>2
def Ex.sz:Ex->Nat
 | .lf _=>1
 | .un _ a=>a.sz+1
 | .bi _ a b=>a.sz+b.sz+1
def Ex.depth:Ex->Nat
 | .lf _=>1
 | .un _ a=>a.depth+1
 | .bi _ a b=>max a.depth b.depth+1
def hk(k:Int):lL:=⟨k,0,0,0,[]⟩
structure cZ where
 kind:Int
 dM:Int
 name:List UInt8
 expr:Ex
structure di where
 name:List UInt8
 pair:Bool
 stmts:List cZ
 az:Int
variable{r:di}
instance:Inhabited di:=⟨⟨[],X,[],0⟩⟩
def uG:List UInt8:= [114,117,108,101]
def tF:List UInt8:= [101,97,99,104]
def sF:List UInt8:= [101,110,116,105,116,121]
def qb:List UInt8:= [112,97,105,114]
def qB:List UInt8:= [108,101,116]
def qC:List UInt8:= [114,101,113,117,105,114,101]
def qD:List UInt8:= [112,111,115,116]
def kU:List UInt8:= [116,111]
def mM:List UInt8:= [112,101,114]
def Vh:List UInt8:= [97,110,100]
def Vi:List UInt8:= [111,114]
def uH:List UInt8:= [110,111,116]
def oQ:List UInt8:= [109,105,110]
def mY:List UInt8:= [109,97,120]
def qc:List UInt8:= [97,98,115]
def qE:List UInt8:= [98,97,108,97,110,99,101]
def oU:List UInt8:= [112,97,114,116,110,101,114]
def nL:List UInt8:= [115,104,97,114,101]
def KS:List (List UInt8):= [uG,tF,sF,qb,qB,qC,qD,kU,mM,Vh,Vi,uH,oQ,mY,qc,qE,oU,nL]
def zi(l:List UInt8):Bool:=KS.contains l
def jd:List (List UInt8 × Int × Nat):= [(Vi,13,1),(Vh,12,2),([60],14,4),([60,61],15,4),([61],16,4),([33,61],17,4),([62,61],18,4),([62],19,4),([43],7,5),([45],8,5),([42],9,6)]
def xz(k:Int):Option (List UInt8 × Int × Nat):=jd.find? λo=>o.2.1==k
def bY(k:Int):Nat:=match xz k with
 |some o=>o.2.2
 |none=>if k=6 then 3 else if k=20 then 6 else if k=3 then 7 else 8
def iw(n:Int):Bool:=decide (1<=n)&&decide (n<=99999)
def qf(l:List UInt8):Bool:=match l with
 | []=>X
 |c::r=>isLet c&&r.all wC&&decide (l.length<=16)&& !zi l
def arity(k:Int):Nat:=if(3<=k/\k<=6)\/k=20 then 1 else if 7<=k/\k<=19 then 2 else 0
def oZ(h:lL)(n:Nat):Bool:=
 (decide (1<=h.kind)&&decide (h.kind<=22)&&(n==arity h.kind))&&
 (
   if h.kind=1 then decide (0<=h.value)&&decide (h.value<=1000000000000)&&(h==⟨1,h.value,0,0,[]⟩)
   else if h.kind=2 then qf h.name&&(h==⟨2,0,0,0,h.name⟩)
   else if h.kind=20 then decide (1<=h.value)&&decide (h.value<=1000000000000)&&(h==⟨20,h.value,0,0,[]⟩)
   else if h.kind=21\/h.kind=22 then iw h.from_&&iw h.az&&(h==⟨h.kind,0,h.from_,h.az,[]⟩)
   else h==hk h.kind)
def eG:Ex->Bool
 | .lf h=>oZ h 0
 | .un h a=>oZ h 1&&eG a
 | .bi h a b=>oZ h 2&&(eG a&&eG b)
def o5(s:cZ):Bool:=
 (if s.kind=1 then qf s.name&&(s.dM==0) else if s.kind=2 then(s.name== [])&&(s.dM==0) else if s.kind=3 then(s.name== [])&&iw s.dM else X)&&
 decide (s.expr.depth<=30)&&eG s.expr
def jK(r:di):Bool:=qf r.name&&decide (r.stmts.length<=30)&&iw r.az&&r.stmts.all o5
def jT(p:List di):Bool:=p.all jK&&decide (p.length<=40)
def fK:Ex->List UInt8
 | .lf h=>if h.kind=1 then iG h.value else if h.kind=21 then qE++ [40]++iG h.from_++ [46,46]++iG h.az++ [41]
   else if h.kind=22 then oU++ [40]++iG h.from_++ [46,46]++iG h.az++ [41] else h.name
 | .un h a=>if h.kind=3 then[45]++(if bY a.hd.kind<7 then[40]++fK a++ [41] else fK a)
   else if h.kind=6 then uH++ [32]++(if bY a.hd.kind<3 then[40]++fK a++ [41] else fK a)
   else if h.kind=20 then(if bY a.hd.kind<6 then[40]++fK a++ [41] else fK a)++ [32]++mM++ [32]++iG h.value
   else(if h.kind=4 then qc else nL)++ [40]++fK a++ [41]
 | .bi h a b=>match xz h.kind with
   |some o=>(if bY a.hd.kind<(if o.2.2=4 then 5 else o.2.2) then[40]++fK a++ [41] else fK a)++ [32]++o.1++ [32]++(if bY b.hd.kind<o.2.2+1 then[40]++fK b++ [41] else fK b)
   |none=>(if h.kind=10 then oQ else mY)++ [40]++fK a++ [44,32]++fK b++ [41]
def eQ(x:Ex)(l:Nat):List UInt8:=if bY x.hd.kind<l then[40]++fK x++ [41] else fK x
def om(s:cZ):List UInt8:=
 (if s.kind=1 then[9]++qB++ [32]++s.name++ [32,61,32] else if s.kind=2 then[9]++qC++ [32] else[9]++qD++ [32]++iG s.dM++ [32])++(eQ s.expr 0++ [59,10])
def Fs(r:di):List UInt8:=uG++ [32]++r.name++ [32]++tF++ [32]++(if r.pair then qb else sF)++ [32,123,10]
def O8(r:di):List UInt8:= [9]++kU++ [32]++iG r.az++ [59,10,125,10]
def Hm(r:di):List UInt8:=Fs r++r.stmts.flatMap om++O8 r
def Fv(p:List di):List UInt8:=p.flatMap Hm
def eZ(l:List UInt8):Tk:=(1,l)
def bn(l:List UInt8):Tk:=(3,l)
def iy(n:Int):Tk:=(2,iG n)
def Ho(l:List UInt8):Tk:=(if(l.headD 0 |> isLet) then 1 else 3,l)
def cB:Ex->List Tk
 | .lf h=>if h.kind=1 then[iy h.value] else if h.kind=21 then[eZ qE,bn [40],iy h.from_,bn [46,46],iy h.az,bn [41]]
   else if h.kind=22 then[eZ oU,bn [40],iy h.from_,bn [46,46],iy h.az,bn [41]] else[eZ h.name]
 | .un h a=>if h.kind=3 then[bn [45]]++(if bY a.hd.kind<7 then[bn [40]]++cB a++ [bn [41]] else cB a)
   else if h.kind=6 then[eZ uH]++(if bY a.hd.kind<3 then[bn [40]]++cB a++ [bn [41]] else cB a)
   else if h.kind=20 then(if bY a.hd.kind<6 then[bn [40]]++cB a++ [bn [41]] else cB a)++ [eZ mM,iy h.value]
   else[eZ (if h.kind=4 then qc else nL),bn [40]]++cB a++ [bn [41]]
 | .bi h a b=>match xz h.kind with
   |some o=>(if bY a.hd.kind<(if o.2.2=4 then 5 else o.2.2) then[bn [40]]++cB a++ [bn [41]] else cB a)++ [Ho o.1]++(if bY b.hd.kind<o.2.2+1 then[bn [40]]++cB b++ [bn [41]] else cB b)
   |none=> [eZ (if h.kind=10 then oQ else mY),bn [40]]++cB a++ [bn [44]]++cB b++ [bn [41]]
def jF(x:Ex)(l:Nat):List Tk:=if bY x.hd.kind<l then[bn [40]]++cB x++ [bn [41]] else cB x
def rC(s:cZ):List Tk:=
 (if s.kind=1 then[eZ qB,eZ s.name,bn [61]] else if s.kind=2 then[eZ qC] else[eZ qD,iy s.dM])++(jF s.expr 0++ [bn [59]])
def KU(r:di):List Tk:= [eZ uG,eZ r.name,eZ tF,eZ (if r.pair then qb else sF),bn [123]]++r.stmts.flatMap rC++ [eZ kU,iy r.az,bn [59],bn [125]]
def Nf(p:List di):List Tk:=p.flatMap KU
def bN(ts:List Tk):List UInt8:=match ts with
 | []=> []
 |t::_=>t.2
def wD(ts:List Tk):Option (List UInt8 × List Tk):=match ts with
 | []=>J
 |t::r=>if t.1=1/\zi t.2=X then N (t.2,r) else J
def tH(lo hi:Int)(ts:List Tk):Option (Int × List Tk):=match ts with
 | []=>J
 |t::r=>if t.1=2/\CG t.2=Z/\lo<=(p9 t.2:Int)/\(p9 t.2:Int)<=hi then N ((p9 t.2:Int),r) else J
def eF(s:List UInt8)(ts:List Tk):Option (List Tk):=match ts with
 | []=>J
 |t::r=>if t.2=s then N r else J
def sG(ts:List Tk):Option (Int × List Tk):=tH 1 99999 ts
def xB(l:Nat)(ts:List Tk):Option Int:=(jd.find? λo=>(o.2.2==l)&&(bN ts==o.1)).map λo=>o.2.1
inductive Md where
 |bG (l:Nat)
 |bin (l:Nat)
 |loop (l:Nat) (x:Ex)
 |iU
variable{md:Md}
def CJ(k:Int)(ts:List Tk):Option (Ex × List Tk):=
 (eF [40] ts).bind λr1=>(sG r1).bind λa=>(eF [46,46] a.2).bind λr2=>(sG r2).bind λb=>(eF [41] b.2).map λr3=>(.lf ⟨k,0,a.1,b.1,[]⟩,r3)
def pE:Nat->Md->List Tk->Option (Ex × List Tk)
 |0,_,_=>J
 |n+1,.bG l,ts=>
  if l<=2 then pE n (.bin (max l 1)) ts
  else if l=3 then(if bN ts=uH then(pE n (.bG 3) ts.tail).map λq=>(.un (hk 6) q.1,q.2) else pE n (.bG 4) ts)
  else if l=4 then(pE n (.bG 5) ts).bind λq=>match xB 4 q.2 with
   |none=>N q
   |some k=>(pE n (.bG 5) q.2.tail).map λq'=>(.bi (hk k) q.1 q'.1,q'.2)
  else if l<=6 then pE n (.bin l) ts
  else if l=7/\bN ts= [45] then(pE n (.bG 7) ts.tail).map λq=>(.un (hk 3) q.1,q.2)
  else pE n .iU ts
 |n+1,.bin l,ts=>(pE n (.bG (l+1)) ts).bind λq=>pE n (.loop l q.1) q.2
 |n+1,.loop l x,ts=>
  if l=6/\bN ts=mM then(tH 1 1000000000000 ts.tail).bind λv=>pE n (.loop l (.un ⟨20,v.1,0,0,[]⟩ x)) v.2
  else match xB l ts with
   |none=>N (x,ts)
   |some k=>(pE n (.bG (l+1)) ts.tail).bind λq=>pE n (.loop l (.bi (hk k) x q.1)) q.2
 |n+1,.iU,ts=>
  if bN ts= [] then J
  else if bN ts= [40] then(pE n (.bG 0) ts.tail).bind λq=>(eF [41] q.2).map λr=>(q.1,r)
  else if bN ts=oQ\/bN ts=mY then(eF [40] ts.tail).bind λr0=>(pE n (.bG 0) r0).bind λq=>(eF [44] q.2).bind λr1=>(pE n (.bG 0) r1).bind λq'=>(eF [41] q'.2).map λr2=>(.bi (hk (if bN ts=mY then 11 else 10)) q.1 q'.1,r2)
  else if bN ts=qc\/bN ts=nL then(eF [40] ts.tail).bind λr0=>(pE n (.bG 0) r0).bind λq=>(eF [41] q.2).map λr1=>(.un (hk (if bN ts=nL then 5 else 4)) q.1,r1)
  else if bN ts=qE\/bN ts=oU then CJ (if bN ts=oU then 22 else 21) ts.tail
  else match ts with
   | []=>J
   |t::_=>if t.1=2 then(tH 0 1000000000000 ts).map λv=>(.lf ⟨1,v.1,0,0,[]⟩,v.2) else(wD ts).map λv=>(.lf ⟨2,0,0,0,v.1⟩,v.2)
def wE(n:Nat)(ts:List Tk):Option (cZ × List Tk):=
 if bN ts=qB then(wD ts.tail).bind λv=>(eF [61] v.2).bind λr=>(pE n (.bG 0) r).bind λq=>(eF [59] q.2).map λr2=>(⟨1,0,v.1,q.1⟩,r2)
 else if bN ts=qC then(pE n (.bG 0) ts.tail).bind λq=>(eF [59] q.2).map λr2=>(⟨2,0,[],q.1⟩,r2)
 else if bN ts=qD then(sG ts.tail).bind λv=>(pE n (.bG 0) v.2).bind λq=>(eF [59] q.2).map λr2=>(⟨3,v.1,[],q.1⟩,r2)
 else J
def zk(n:Nat):Nat->List Tk->Option (List cZ × List Tk)
 |0,_=>J
 |m+1,ts=>if bN ts=kU then N ([],ts) else(wE n ts).bind λs=>(zk n m s.2).map λq=>(s.1::q.1,q.2)
def Fw(ts:List Tk):Option ((List UInt8 × Bool) × List Tk):=
 (eF uG ts).bind λr0=>(wD r0).bind λv=>(eF tF v.2).bind λr1=>
  if bN r1=qb then(eF [123] r1.tail).map λr2=>((v.1,Z),r2) else(eF sF r1).bind λr2=>(eF [123] r2).map λr3=>((v.1,X),r3)
def JD(ts:List Tk):Option (Int × List Tk):=(eF kU ts).bind λr0=>(sG r0).bind λv=>(eF [59] v.2).bind λr1=>(eF [125] r1).map λr2=>(v.1,r2)
def Fx(n m:Nat)(ts:List Tk):Option (di × List Tk):=
 (Fw ts).bind λh=>(zk n m h.2).bind λs=>(JD s.2).map λe=>(⟨h.1.1,h.1.2,s.1,e.1⟩,e.2)
def tJ(n m:Nat):Nat->List Tk->Option (List di)
 |0,_=>J
 |k+1,ts=>if ts= [] then N [] else(Fx n m ts).bind λr=>(tJ n m k r.2).map λq=>r.1::q
theorem an5{m:Nat}(H:∀md ts r,pE n md ts=N r->pE m md ts=N r):∀md ts r,pE (n+1) md ts=N r->pE (m+1) md ts=N r:=by
 have hm:∀ {β:Type} {md ts} {f:Ex × List Tk->β} {r},(pE n md ts).map f=N r->(pE m md ts).map f=N r:=by intro β md ts f r h;obtain⟨q,hq,e⟩:=Option.map_eq_some_iff.1 h;rw[H _ _ _ hq];exact congrArg N e
 have hb:∀ {β:Type} {md ts} {f g:Ex × List Tk->Option β} {r},(∀q,f q=N r->g q=N r)->(pE n md ts).bind f=N r->(pE m md ts).bind g=N r:=by intro β md ts f g r hf h;obtain⟨q,hq,e⟩:=Option.bind_eq_some_iff.1 h;rw[H _ _ _ hq];exact hf q e
 have ho:∀ {α β:Type} {o:Option α} {f g:α->Option β} {r},(∀q,f q=N r->g q=N r)->o.bind f=N r->o.bind g=N r:=by intro α β o f g r hf h;obtain⟨q,hq,e⟩:=Option.bind_eq_some_iff.1 h;rw[hq];exact hf q e
 intro md ts r h;cases md with
 |bG l=>
  simp only[pE] at h |-;by_cases h1:l<=2;·rw[if_pos h1] at h |-;exact H _ _ _ h
  rw[if_neg h1] at h |-;by_cases h2:l=3
  ·rw[if_pos h2] at h |-;by_cases h3:bN ts=uH;·rw[if_pos h3] at h |-;exact hm h
   rw[if_neg h3] at h |-;exact H _ _ _ h
  rw[if_neg h2] at h |-;by_cases h4:l=4
  ·rw[if_pos h4] at h |-;refine hb (λq hq=>?_) h;cases e:xB 4 q.2 with
   |none=>rw[e] at hq;exact hq
   |some k=>rw[e] at hq;exact hm hq
  rw[if_neg h4] at h |-;by_cases h5:l<=6;·rw[if_pos h5] at h |-;exact H _ _ _ h
  rw[if_neg h5] at h |-;by_cases h6:l=7/\bN ts= [45];·rw[if_pos h6] at h |-;exact hm h
  rw[if_neg h6] at h |-;exact H _ _ _ h
 |bin l=>simp only[pE] at h |-;exact hb (λq hq=>H _ _ _ hq) h
 |loop l x=>
  simp only[pE] at h |-;by_cases h1:l=6/\bN ts=mM;·rw[if_pos h1] at h |-;exact ho (λq hq=>H _ _ _ hq) h
  rw[if_neg h1] at h |-;cases e:xB l ts with
  |none=>rw[e] at h;exact h
  |some k=>rw[e] at h;exact hb (λq hq=>H _ _ _ hq) h
 |iU=>
  simp only[pE] at h |-;by_cases h1:bN ts= [];·rw[if_pos h1] at h |-;exact h
  rw[if_neg h1] at h |-;by_cases h2:bN ts= [40];·rw[if_pos h2] at h |-;exact hb (λq hq=>hq) h
  rw[if_neg h2] at h |-;by_cases h3:bN ts=oQ\/bN ts=mY;·rw[if_pos h3] at h |-;exact ho (λq hq=>hb (λq hq=>ho (λq hq=>hb (λq hq=>hq) hq) hq) hq) h
  rw[if_neg h3] at h |-;by_cases h4:bN ts=qc\/bN ts=nL;·rw[if_pos h4] at h |-;exact ho (λq hq=>hb (λq hq=>hq) hq) h
  rw[if_neg h4] at h |-;exact h
theorem an6:∀n md ts r,pE n md ts=N r->pE (n+1) md ts=N r:=by
 intro n;induction n with
 |zero=>intro md ts r h;simp[pE] at h
 |succ n ih=>exact an5 ih
theorem O9{m:Nat}(h:n<=m){md ts r}(e:pE n md ts=N r):pE m md ts=N r:=by
 induction m with
 |zero=>obtain rfl:n=0:=I;exact e
 |succ m ih=>
  by_cases q:n=m+1;·subst q;exact e
  exact an6 _ _ _ _ (ih I)
def Pe(md:Md)(ts:List Tk)(r:Ex × List Tk):Prop:=∃n,pE n md ts=N r
theorem Pe.low{l:Nat}{ts r}(hl:l<=2):Pe (.bin (max l 1)) ts r->Pe (.bG l) ts r:=by rintro⟨n,h⟩;exact⟨n+1,by simp only[pE];rw[if_pos hl];exact h⟩
theorem Pe.not{ts x r}(hh:bN ts=uH):Pe (.bG 3) ts.tail (x,r)->Pe (.bG 3) ts (.un (hk 6) x,r):=by rintro⟨n,h⟩;exact⟨n+1,by simp only[pE];rw[if_neg I,if_pos trivial,if_pos hh,h];rfl⟩
theorem Pe.not'{ts r}(hh:bN ts≠uH):Pe (.bG 4) ts r->Pe (.bG 3) ts r:=by rintro⟨n,h⟩;exact⟨n+1,by simp only[pE];rw[if_neg I,if_pos trivial,if_neg hh,h]⟩
theorem Pe.rel{ts x r}(hh:xB 4 r=J):Pe (.bG 5) ts (x,r)->Pe (.bG 4) ts (x,r):=by rintro⟨n,h⟩;exact⟨n+1,by simp only[pE];rw[if_neg I,if_neg I,if_pos trivial,h];simp only[bZ];rw[hh]⟩
theorem Pe.rel'{ts x r k y r'}(hh:xB 4 r=N k):Pe (.bG 5) ts (x,r)->Pe (.bG 5) r.tail (y,r')->Pe (.bG 4) ts (.bi (hk k) x y,r'):=by rintro⟨n,h⟩ ⟨m,h'⟩;refine⟨max n m+1,?_⟩;simp only[pE];rw[if_neg I,if_neg I,if_pos trivial,O9 (Nat.le_max_left n m) h];simp only[bZ];rw[hh];simp only[];rw[O9 (Nat.le_max_right n m) h'];rfl
theorem Pe.mid{l:Nat}{ts r}(hl:l=5\/l=6):Pe (.bin l) ts r->Pe (.bG l) ts r:=by rintro⟨n,h⟩;exact⟨n+1,by simp only[pE];rw[if_neg I,if_neg I,if_neg I,if_pos I];exact h⟩
theorem Pe.neg{ts x r}(hh:bN ts= [45]):Pe (.bG 7) ts.tail (x,r)->Pe (.bG 7) ts (.un (hk 3) x,r):=by rintro⟨n,h⟩;exact⟨n+1,by simp only[pE];rw[if_neg I,if_neg I,if_neg I,if_neg I,if_pos ⟨trivial,hh⟩,h];rfl⟩
theorem Pe.pri{l:Nat}{ts r}(hl:7<=l)(hh:¬(l=7/\bN ts= [45])):Pe .iU ts r->Pe (.bG l) ts r:=by rintro⟨n,h⟩;exact⟨n+1,by simp only[pE];rw[if_neg I,if_neg I,if_neg I,if_neg I,if_neg hh];exact h⟩
theorem Pe.bin{l:Nat}{ts x r1 r}:Pe (.bG (l+1)) ts (x,r1)->Pe (.loop l x) r1 r->Pe (.bin l) ts r:=by rintro⟨n,h⟩ ⟨m,h'⟩;refine⟨max n m+1,?_⟩;simp only[pE];rw[O9 (Nat.le_max_left n m) h];exact O9 (Nat.le_max_right n m) h'
theorem Pe.per{ts x v r1 r}(hh:bN ts=mM)(hv:tH 1 1000000000000 ts.tail=N (v,r1)):Pe (.loop 6 (.un ⟨20,v,0,0,[]⟩ x)) r1 r->Pe (.loop 6 x) ts r:=by rintro⟨n,h⟩;exact⟨n+1,by simp only[pE];rw[if_pos ⟨trivial,hh⟩,hv];exact h⟩
theorem Pe.stop{l:Nat}{ts x}(h1:¬(l=6/\bN ts=mM))(h2:xB l ts=J):Pe (.loop l x) ts (x,ts):=⟨1,by simp only[pE];rw[if_neg h1,h2]⟩
theorem Pe.op{l:Nat}{ts x k y r1 r}(h1:¬(l=6/\bN ts=mM))(h2:xB l ts=N k):Pe (.bG (l+1)) ts.tail (y,r1)->Pe (.loop l (.bi (hk k) x y)) r1 r->Pe (.loop l x) ts r:=by rintro⟨n,h⟩ ⟨m,h'⟩;refine⟨max n m+1,?_⟩;simp only[pE];rw[if_neg h1,h2];simp only[];rw[O9 (Nat.le_max_left n m) h];exact O9 (Nat.le_max_right n m) h'
def qz(w:List UInt8):Nat:=match jd.find? λo=>o.1==w with
 |some o=>o.2.2
 |none=>if w=mM then 6 else 0
theorem an7{l:Nat}{ts:List Tk}{k:Int}(h:xB l ts=N k):qz (bN ts)=l:=by unfold xB at h;obtain⟨o,ho,-⟩:=Option.map_eq_some_iff.1 h;have hm:=RU ho;have hp:=List.find?_some ho;simp only[bq,beq_iff_eq] at hp;obtain⟨h1,h2⟩:=hp;rw[h2];subst h1;simp only[jd,jZ,nJ,or_false] at hm;rcases hm with rfl|rfl|rfl|rfl|rfl|rfl|rfl|rfl|rfl|rfl|rfl<;>decide
theorem abT{l:Nat}{ts:List Tk}(h:qz (bN ts)≠l):xB l ts=J:=by
 cases e:xB l ts with
 |none=>rfl
 |some k=>exact absurd (an7 e) h
theorem an8:qz mM=6:=by decide
theorem afU{l:Nat}{ts:List Tk}(h:qz (bN ts)<l):¬(l=6/\bN ts=mM):=by rintro⟨rfl,e⟩;rw[e,an8] at h;omega
theorem afV(h:R:=by simp only[jd,jZ,nJ,or_false] at ho;rcases ho with rfl|rfl|rfl|rfl|rfl|rfl|rfl|rfl|rfl|rfl|rfl<;>decide):R:=h
theorem afW{o:List UInt8 × Int × Nat}(ho:o∈jd)(ts:List Tk):xB o.2.2 (Ho o.1::ts)=N o.2.1/\qz o.1=o.2.2/\o.1≠mM:=by have e:xB o.2.2 (Ho o.1::ts)=(jd.find? λp=>(p.2.2==o.2.2)&&(o.1==p.1)).map λp=>p.2.1:=rfl;rw[e];clear e;exact afV
theorem Ze{k:Int}{o:List UInt8 × Int × Nat}(h:xz k=N o):o∈jd/\o.2.1=k:=by unfold xz at h;exact⟨RU h,by have:=List.find?_some h;simpa using this⟩
theorem abU{o:List UInt8 × Int × Nat}(ho:o∈jd):o.2.2=1\/o.2.2=2\/o.2.2=4\/o.2.2=5\/o.2.2=6:=by exact afV
theorem abV{ts:List Tk}(h:ts≠ [])(rest:List Tk):bN (ts++rest)=bN ts:=by
 cases ts with
 |nil=>exact absurd rfl h
 |cons t r=>rfl
theorem afX{ts:List Tk}(aY:ts≠ []){m:Nat}(hm:m<=8)(h3:3<m->bN ts≠uH)(h7:7<m->bN ts≠ [45])
  (h:∀rest,qz (bN rest)<max m 1->Pe (.bG m) (ts++rest) (x,rest)):∀d l,l+d=m->∀rest,qz (bN rest)<max l 1->Pe (.bG l) (ts++rest) (x,rest):=by
 intro d;induction d with
 |zero=>
   intro l hl rest hr;obtain rfl:l=m:=by omega
   exact h rest hr
 |succ d ih=>
  intro l hl rest hr;have up:=ih (l+1) I rest I;have Zf:1<=l->Pe (.bin l) (ts++rest) (x,rest):=λh1=>Pe.bin up (Pe.stop (afU I) (abT I));have hl8:l=0\/l=1\/l=2\/l=3\/l=4\/l=5\/l=6\/l=7:=I;rcases hl8 with rfl|rfl|rfl|rfl|rfl|rfl|rfl|rfl
  ·obtain⟨n,hn⟩:=up;cases n with
   |zero=>simp[pE] at hn
   |succ n=>exact⟨n+1,by simpa[pE] using hn⟩
  ·exact Pe.low I (Zf I)
  ·exact Pe.low I (Zf I)
  ·exact Pe.not' (by rw[abV aY];exact h3 I) up
  ·exact Pe.rel (abT I) up
  ·exact Pe.mid (.inl rfl) (Zf I)
  ·exact Pe.mid (.inr rfl) (Zf I)
  obtain⟨n,hn⟩:=up;cases n with
  |zero=>simp[pE] at hn
  |succ n=>refine Pe.pri I ?_ ⟨n,by simpa[pE] using hn⟩;rintro⟨_,e⟩;rw[abV aY] at e;exact h7 I e
theorem Pb(e:oZ h n=Z):1<=h.kind/\h.kind<=22/\n=arity h.kind:=by unfold oZ at e;simp only[bq,decide_eq_true_eq,beq_iff_eq] at e;exact⟨e.1.1.1,e.1.1.2,e.1.2⟩
theorem abW(h:R:=by simp only[bq,decide_eq_true_eq,beq_iff_eq] at e2;exact⟨e2.1.1,e2.1.2,e2.2⟩):R:=h
theorem RV(e:oZ h n=Z):(if h.kind=1 then 0<=h.value/\h.value<=1000000000000/\h=⟨1,h.value,0,0,[]⟩
 else if h.kind=2 then qf h.name=Z/\h=⟨2,0,0,0,h.name⟩
 else if h.kind=20 then 1<=h.value/\h.value<=1000000000000/\h=⟨20,h.value,0,0,[]⟩
 else if h.kind=21\/h.kind=22 then(1<=h.from_/\h.from_<=99999)/\(1<=h.az/\h.az<=99999)/\h=⟨h.kind,0,h.from_,h.az,[]⟩
 else h=hk h.kind):=by
 unfold oZ iw at e;rw[bq] at e;have e2:=e.2;clear e;by_cases h1:h.kind=1;·rw[if_pos h1] at e2 |-;exact abW
 rw[if_neg h1] at e2 |-;by_cases h2:h.kind=2;·rw[if_pos h2] at e2 |-;simp only[bq,decide_eq_true_eq,beq_iff_eq] at e2;exact e2
 rw[if_neg h2] at e2 |-;by_cases h3:h.kind=20;·rw[if_pos h3] at e2 |-;exact abW
 rw[if_neg h3] at e2 |-;by_cases h4:h.kind=21\/h.kind=22;·rw[if_pos h4] at e2 |-;exact abW
 rw[if_neg h4] at e2 |-;simpa using e2
theorem abX{n:Int}(h0:0<=n)(h1:n<=1000000000000):CG (iG n)=Z/\(p9 (iG n):Int)=n/\∃c r,iG n=c::r/\jo c=Z:=by
 obtain⟨m,rfl⟩:∃m:Nat,n=m:=⟨n.toNat,I⟩;rw[itoa_nonneg];have h2:=anS m;have h3:=anR m;have h4:=afO m;have h5:=afN m;refine⟨?_,by rw[h2],?_⟩;·unfold CG;rw[h3,h2,decide_eq_true I];rfl
 cases e:M7 m with
 |nil=>rw[e] at h5;simp at h5
 |cons c r=>rw[e] at h4;simp only[zh,bq] at h4;exact⟨c,r,rfl,h4.1⟩
theorem abY{n:Int}(h0:0<=n)(h1:n<=1000000000000){w:List UInt8}(hw:∀c r,w=c::r->jo c=X):iG n≠w:=by obtain⟨_,_,c,r,e,hc⟩:=abX h0 h1;intro q;have:=hw c r (by rw[<-q,e]);rw[hc] at this;cases this
theorem abZ{n:Int}(h0:0<=n)(h1:n<=1000000000000)(hl:lo<=n)(hh:n<=hi)(rest:List Tk):tH lo hi (iy n::rest)=N (n,rest):=by obtain⟨a,b,_⟩:=abX h0 h1;simp only[tH,iy];rw[b,if_pos ⟨trivial,a,hl,hh⟩]
theorem Vj{l:List UInt8}(h:qf l=Z):(∃c r,l=c::r/\isLet c=Z/\r.all wC=Z)/\l.length<=16/\zi l=X:=by
 cases l with
 |nil=>simp[qf] at h
 |cons c r=>simp only[qf,bq,decide_eq_true_eq,Bool.not_eq_true'] at h;exact⟨⟨c,r,rfl,h.1.1.1,h.1.1.2⟩,h.1.2,h.2⟩
theorem Zg{l w:List UInt8}(h:qf l=Z)(hw:zi w=Z\/∀c r,w=c::r->isLet c=X):l≠w:=by
 obtain⟨⟨c,r,e,hc,_⟩,_,hk⟩:=Vj h;rintro rfl;rcases hw with hw|hw;·rw[hk] at hw;cases hw
 have:=hw c r e;rw[hc] at this;cases this
theorem ab0{k:Int}{o}(h:xz k=N o):bY k=o.2.2:=by unfold bY;rw[h]
theorem Vk(k:Int):1<=bY k/\bY k<=8:=by
 unfold bY;cases e:xz k with
 |none=>simp only[];split<;>(try split)<;>(try split)<;>omega
 |some o=>have:=abU (Ze e).1;simp only[];omega
theorem afY:∀x:Ex,cB x≠ []:=by
 intro x;cases x with
 |lf h=>unfold cB;split<;>(try split)<;>(try split)<;>simp
 |un h a=>unfold cB;split<;>(try split)<;>(try split)<;>simp
 |bi h a b=>unfold cB;split<;>simp
theorem afZ(x:Ex)(l:Nat):jF x l≠ []:=by
 unfold jF;split;·simp
 exact afY x
def RX(x:Ex)(w:List UInt8):Prop:=(3<bY x.hd.kind->w≠uH)/\(7<bY x.hd.kind->w≠ [45])
theorem af0{a b:List Tk}(h:a≠ []):bN (a++b)=bN a:=abV h b
theorem af1(x:Ex)(l:Nat)(h:bY x.hd.kind<l):bN (jF x l)= [40]:=by unfold jF;rw[if_pos h];rfl
theorem ab1:∀x:Ex,eG x=Z->RX x (bN (cB x)):=by
 intro x;induction x with
 |lf h=>
  intro ok;have rE:=Pb ok;have h2:=RV ok;have ha:arity h.kind=0:=rE.2.2.symm;have iV:h.kind=1\/h.kind=2\/h.kind=21\/h.kind=22:=by
    unfold arity at ha;split at ha;·cases ha
    split at ha;·cases ha
    omega
  rcases iV with e|e|e|e
  ·rw[if_pos e] at h2;have hd:bN (cB (.lf h))=iG h.value:=by simp only[cB,e,if_true];rfl
   rw[hd];exact⟨λ_=>abY h2.1 h2.2.1 G6,λ_=>abY h2.1 h2.2.1 G6⟩
  ·rw[if_neg I,if_pos e] at h2;have hd:bN (cB (.lf h))=h.name:=MN;rw[hd];exact⟨λ_=>Zg h2.1 (.inl aL),λ_=>Zg h2.1 (.inr G6)⟩
  ·have hd:bN (cB (.lf h))=qE:=by simp only[cB,e];rfl
   rw[hd];exact⟨λ_=>by decide,λ_=>by decide⟩
  have hd:bN (cB (.lf h))=oU:=by simp only[cB,e];rfl
  rw[hd];exact⟨λ_=>by decide,λ_=>by decide⟩
 |un h a qg=>
  intro ok;simp only[eG,bq] at ok;have rE:=Pb ok.1;have ha:arity h.kind=1:=rE.2.2.symm;have ih:=qg ok.2;have iV:h.kind=3\/h.kind=4\/h.kind=5\/h.kind=6\/h.kind=20:=by
   unfold arity at ha;split at ha;·omega
   split at ha<;>cases ha
  unfold RX;show(3<bY h.kind->_)/\(7<bY h.kind->_);rcases iV with e|e|e|e|e<;>rw[e]
  ·have hd:bN (cB (.un h a))= [45]:=by simp only[cB,e,if_true];rfl
   rw[hd];exact⟨λ_=>by decide,λq=>absurd q aL⟩
  ·have hd:bN (cB (.un h a))=qc:=by simp only[cB,e];rfl
   rw[hd];exact⟨λ_=>by decide,λ_=>by decide⟩
  ·have hd:bN (cB (.un h a))=nL:=by simp only[cB,e];rfl
   rw[hd];exact⟨λ_=>by decide,λ_=>by decide⟩
  ·exact⟨λq=>absurd q aL,λq=>absurd q aL⟩
  refine⟨λ_=>?_,λq=>absurd q aL⟩;have hd:bN (cB (.un h a))=bN (jF a 6):=by have:cB (.un h a)=jF a 6++ [eZ mM,iy h.value]:=MN;rw[this,af0 (afZ a 6)]
  rw[hd];by_cases q:bY a.hd.kind<6;·rw[af1 a 6 q];decide
  unfold jF;rw[if_neg q];exact ih.1 I
 |bi h a b qg vg=>
  intro ok;simp only[eG,bq] at ok;have ih:=qg ok.2.1;unfold RX;show(3<bY h.kind->_)/\(7<bY h.kind->_);cases e:xz h.kind with
  |none=>
   have hd:bN (cB (.bi h a b))=if h.kind=10 then oQ else mY:=by simp only[cB,e];split<;>rfl
   rw[hd];constructor<;>(intro _;split<;>decide)
  |some o=>
   have hl:=ab0 e;have ho:=abU (Ze e).1;have hd:bN (cB (.bi h a b))=bN (jF a (if o.2.2=4 then 5 else o.2.2)):=by
    have:cB (.bi h a b)=jF a (if o.2.2=4 then 5 else o.2.2)++([Ho o.1]++jF b (o.2.2+1)):=by simp only[cB,e,xw];rfl
    rw[this,af0 (afZ a _)]
   rw[hd];refine⟨λq=>?_,λq=>by omega⟩;by_cases q2:bY a.hd.kind<(if o.2.2=4 then 5 else o.2.2);·rw[af1 a _ q2];decide
   unfold jF;rw[if_neg q2];refine ih.1 ?_;have:4<=(if o.2.2=4 then 5 else o.2.2):=by split<;>omega
   omega
structure Rd(x:Ex):Prop where
 at_:∀l,l<=bY x.hd.kind->∀rest,qz (bN rest)<max l 1->Pe (.bG l) (cB x++rest) (x,rest)
 chain:∀l,(l=1\/l=2\/l=5\/l=6)->l<=bY x.hd.kind->∀rest r,qz (bN rest)<=l->Pe (.loop l x) rest r->Pe (.bin l) (cB x++rest) r
theorem Rd.par(h:Rd x)(rest:List Tk):Pe .iU ([bn [40]]++cB x++ [bn [41]]++rest) (x,rest):=by have e:qz (bN ([bn [41]]++rest))<max 0 1:=abH;obtain⟨n,hn⟩:=h.at_ 0 (by have:=Vk x.hd.kind;omega) ([bn [41]]++rest) e;refine⟨n+1,?_⟩;have e2:bN ([bn [40]]++cB x++ [bn [41]]++rest)= [40]:=rfl;have e3:([bn [40]]++cB x++ [bn [41]]++rest).tail=cB x++([bn [41]]++rest):=aG;simp only[pE];rw[e2,if_neg aL,if_pos rfl,e3,hn];rfl
theorem Rd.text(h:Rd x)(l:Nat)(hl:l<=8)(rest:List Tk)(hr:qz (bN rest)<max l 1):Pe (.bG l) (jF x l++rest) (x,rest):=by
 unfold jF;by_cases q:bY x.hd.kind<l;·rw[if_pos q];have e:bN ([bn [40]]++cB x++ [bn [41]])= [40]:=rfl;refine afX (ts:= [bn [40]]++cB x++ [bn [41]]) aG (m:=8) I (λ_=>by rw[e];decide) (λ_=>by rw[e];decide) (λrest _=>?_) (8-l) l I rest hr;exact Pe.pri I (by rintro⟨e,_⟩;omega) (h.par rest)
 rw[if_neg q];exact h.at_ l I rest hr
theorem Rd.af2(h:Rd x)(l:Nat)(hl:l=1\/l=2\/l=5\/l=6)(rest:List Tk)(r:Ex × List Tk)(hr:qz (bN rest)<=l)(hp:Pe (.loop l x) rest r):Pe (.bin l) (jF x l++rest) r:=by
 by_cases q:bY x.hd.kind<l
 ·have e:jF x l=jF x (l+1):=by unfold jF;rw[if_pos q,if_pos I]
  rw[e];exact Pe.bin (h.text (l+1) I rest I) hp
 unfold jF;rw[if_neg q];exact h.chain l hl I rest r hr hp
theorem Rd.Vl(hd:RX x (bN (cB x)))(top:∀rest,qz (bN rest)<max (bY x.hd.kind) 1->Pe (.bG (bY x.hd.kind)) (cB x++rest) (x,rest))
  (ch:(bY x.hd.kind=1\/bY x.hd.kind=2\/bY x.hd.kind=5\/bY x.hd.kind=6)->∀rest r,qz (bN rest)<=bY x.hd.kind->Pe (.loop (bY x.hd.kind) x) rest r->Pe (.bin (bY x.hd.kind)) (cB x++rest) r):Rd x:=by
 have hm:=Vk x.hd.kind;have A:∀l,l<=bY x.hd.kind->∀rest,qz (bN rest)<max l 1->Pe (.bG l) (cB x++rest) (x,rest):=λl hl rest hr=>afX (afY x) hm.2 hd.1 hd.2 top (bY x.hd.kind-l) l I rest hr;refine⟨A,λl hl fO rest r hr hp=>?_⟩;by_cases q:l=bY x.hd.kind;·subst q;exact ch hl rest r hr hp
 exact Pe.bin (A (l+1) I rest I) hp
theorem Rd.af3(hd:RX x (bN (cB x)))(hL:bY x.hd.kind=1\/bY x.hd.kind=2\/bY x.hd.kind=5\/bY x.hd.kind=6)
  (ch:∀rest r,qz (bN rest)<=bY x.hd.kind->Pe (.loop (bY x.hd.kind) x) rest r->Pe (.bin (bY x.hd.kind)) (cB x++rest) r):Rd x:=by
 refine Rd.Vl hd (λrest hr=>?_) (λ_=>ch);have hb:=ch rest (x,rest) I (Pe.stop (afU I) (abT I));generalize bY x.hd.kind=L at*;rcases hL with rfl|rfl|rfl|rfl;·exact Pe.low I hb
 ·exact Pe.low I hb
 ·exact Pe.mid (.inl rfl) hb
 exact Pe.mid (.inr rfl) hb
theorem Rd.Zh(hd:RX x (bN (cB x)))(hL:bY x.hd.kind=8)(h:∀rest,Pe .iU (cB x++rest) (x,rest)):Rd x:=by refine Rd.Vl hd (λrest hr=>?_) (λq=>by omega);rw[hL];exact Pe.pri I (by rintro⟨e,_⟩;omega) (h rest)
theorem ab2{t:Tk}{ts:List Tk}(h0:t.2≠ [])(h1:t.2≠ [40])(h2:t.2≠oQ)(h3:t.2≠mY)(h4:t.2≠qc)(h5:t.2≠nL)(h6:t.2≠qE)(h7:t.2≠oU):
  pE (n+1) .iU (t::ts)=if t.1=2 then(tH 0 1000000000000 (t::ts)).map λv=>(.lf ⟨1,v.1,0,0,[]⟩,v.2) else(wD (t::ts)).map λv=>(.lf ⟨2,0,0,0,v.1⟩,v.2):=by simp only[pE];have e:bN (t::ts)=t.2:=rfl;rw[e,if_neg h0,if_neg h1,if_neg (by rintro(e|e);exact h2 e;exact h3 e),if_neg (by rintro(e|e);exact h4 e;exact h5 e),if_neg (by rintro(e|e);exact h6 e;exact h7 e)]
theorem Zi{n:Int}(h:1<=n/\n<=99999)(rest:List Tk):sG (iy n::rest)=N (n,rest):=abZ I I h.1 h.2 rest
theorem af4{k a b:Int}(ha:1<=a/\a<=99999)(hb:1<=b/\b<=99999)(rest:List Tk):CJ k ([bn [40],iy a,bn [46,46],iy b,bn [41]]++rest)=N (.lf ⟨k,0,a,b,[]⟩,rest):=by have e1:sG (iy a::bn [46,46]::iy b::bn [41]::rest)=N (a,bn [46,46]::iy b::bn [41]::rest):=Zi ha _;have e2:sG (iy b::bn [41]::rest)=N (b,bn [41]::rest):=Zi hb _;simp only[CJ,eF,bn,o6,wF,if_true,bZ] at*;rw[e1];simp only[bZ,if_true];rw[e2];simp
theorem an9(ok:eG (.lf h)=Z):Rd (.lf h):=by
 have hd:=ab1 _ ok;have rE:=Pb (show oZ h 0=Z from ok);have h2:=RV (show oZ h 0=Z from ok);have ha:arity h.kind=0:=rE.2.2.symm;have iV:h.kind=1\/h.kind=2\/h.kind=21\/h.kind=22:=by
  unfold arity at ha;split at ha;·cases ha
  split at ha;·cases ha
  omega
 refine Rd.Zh hd ?_ λrest=>?_;·show bY h.kind=8;rcases iV with e|e|e|e<;>rw[e]<;>decide
 rcases iV with e|e|e|e
 ·rw[if_pos e] at h2;have hb:cB (.lf h)= [iy h.value]:=by simp only[cB,e,if_true]
  have nw:∀w:List UInt8,(∀c r,w=c::r->jo c=X)->iG h.value≠w:=λw hw=>abY h2.1 h2.2.1 hw;rw[hb];refine⟨1,?_⟩;show pE (0+1) .iU (iy h.value::rest)=_;rw[ab2 (nw _ (by intro c r q;cases q)) (nw _ G6) (nw _ G6) (nw _ G6) (nw _ G6) (nw _ G6) (nw _ G6) (nw _ G6)];rw[if_pos (show(iy h.value).1=2 from rfl),abZ h2.1 h2.2.1 h2.1 h2.2.1];simp only[qh];rw[<-h2.2.2]
 ·rw[if_neg I,if_pos e] at h2;have hb:cB (.lf h)= [eZ h.name]:=MN;have nw:∀w:List UInt8,zi w=Z->h.name≠w:=λw hw=>Zg h2.1 (.inl hw);have nw2:∀w:List UInt8,(∀c r,w=c::r->isLet c=X)->h.name≠w:=λw hw=>Zg h2.1 (.inr hw);rw[hb];refine⟨1,?_⟩;show pE (0+1) .iU (eZ h.name::rest)=_;rw[ab2 (nw2 _ (by intro c r q;cases q)) (nw2 _ G6) (nw _ aL) (nw _ aL) (nw _ aL) (nw _ aL) (nw _ aL) (nw _ aL)];rw[if_neg (by show ¬((1:Int)=2);omega)];simp only[wD,eZ];rw[if_pos ⟨trivial,(Vj h2.1).2.2⟩];simp only[qh];rw[<-h2.2]
 ·rw[if_neg I,if_neg I,if_neg I,if_pos (.inl e)] at h2;have hb:cB (.lf h)=eZ qE:: [bn [40],iy h.from_,bn [46,46],iy h.az,bn [41]]:=MN;rw[hb];refine⟨1,?_⟩;have ht:bN (eZ qE:: [bn [40],iy h.from_,bn [46,46],iy h.az,bn [41]]++rest)=qE:=rfl;simp only[pE];rw[ht,if_neg aL,if_neg aL,if_neg aL,if_neg aL,if_pos (.inl rfl),if_neg aL];show CJ 21 ([bn [40],iy h.from_,bn [46,46],iy h.az,bn [41]]++rest)=_;rw[af4 h2.1 h2.2.1];have:=h2.2.2;rw[e] at this;rw[<-this]
 rw[if_neg I,if_neg I,if_neg I,if_pos (.inr e)] at h2;have hb:cB (.lf h)=eZ oU:: [bn [40],iy h.from_,bn [46,46],iy h.az,bn [41]]:=MN;rw[hb];refine⟨1,?_⟩;have ht:bN (eZ oU:: [bn [40],iy h.from_,bn [46,46],iy h.az,bn [41]]++rest)=oU:=rfl;simp only[pE];rw[ht,if_neg aL,if_neg aL,if_neg aL,if_neg aL,if_pos (.inr rfl),if_pos rfl];show CJ 22 ([bn [40],iy h.from_,bn [46,46],iy h.az,bn [41]]++rest)=_;rw[af4 h2.1 h2.2.1];have:=h2.2.2;rw[e] at this;rw[<-this]
theorem Pe.app{ts:List Tk}{r:Ex × List Tk}(h:Pe md ts r):∃n,∀m,n<=m->pE m md ts=N r:=by obtain⟨n,h⟩:=h;exact⟨n,λm hm=>O9 hm h⟩
theorem aoa{a:Ex}(ok:eG (.un h a)=Z)(ra:Rd a):Rd (.un h a):=by
 have hd:=ab1 _ ok;simp only[eG,bq] at ok;have rE:=Pb ok.1;have h2:=RV ok.1;have ha:arity h.kind=1:=rE.2.2.symm;have iV:h.kind=3\/h.kind=4\/h.kind=5\/h.kind=6\/h.kind=20:=by
  unfold arity at ha;split at ha;·omega
  split at ha<;>cases ha
 have call:∀w,(w=qc\/w=nL)->cB (.un h a)=eZ w::bn [40]::cB a++ [bn [41]]->h=hk (if w=nL then 5 else 4)->∀rest,Pe .iU (cB (.un h a)++rest) (.un h a,rest):=by intro w hw hb hh rest;have e:qz (bN ([bn [41]]++rest))<max 0 1:=abH;obtain⟨n,hn⟩:=ra.at_ 0 (by have:=Vk a.hd.kind;omega) ([bn [41]]++rest) e;rw[hb];refine⟨n+1,?_⟩;have ht:bN (eZ w::bn [40]::cB a++ [bn [41]]++rest)=w:=rfl;have e3:(eZ w::bn [40]::cB a++ [bn [41]]++rest).tail=bn [40]::(cB a++([bn [41]]++rest)):=aG;simp only[pE];rw[ht,e3,if_neg UT,if_neg UT,if_neg UT,if_pos hw];simp only[eF,bn,if_true,bZ] at hn |-;rw[hn];simp only[bZ,o6,wF,if_true,qh];rw[<-hh]
 rcases iV with e|e|e|e|e
 ·have hh:h=hk 3:=by rw[if_neg I,if_neg I,if_neg I,if_neg I,e] at h2;exact h2
  subst hh;refine Rd.Vl hd (λrest hr=>?_) (λq=>absurd q (by show ¬(bY 3=1\/bY 3=2\/bY 3=5\/bY 3=6);decide));have tK:qz (bN rest)<7:=hr;exact Pe.neg (ts:= [bn [45]]++jF a 7++rest) rfl (ra.text 7 I rest I)
 ·have hh:h=hk 4:=by
   rw[if_neg I,if_neg I,if_neg I,if_neg I,e] at h2
   exact h2
  exact Rd.Zh hd (by show bY h.kind=8;rw[e];decide) (call qc (.inl rfl) (by subst hh;rfl) (by rw[if_neg aL];exact hh))
 ·have hh:h=hk 5:=by
   rw[if_neg I,if_neg I,if_neg I,if_neg I,e] at h2
   exact h2
  exact Rd.Zh hd (by show bY h.kind=8;rw[e];decide) (call nL (.inr rfl) (by subst hh;rfl) (by rw[if_pos rfl];exact hh))
 ·have hh:h=hk 6:=by
   rw[if_neg I,if_neg I,if_neg I,if_neg I,e] at h2
   exact h2
  subst hh
  refine Rd.Vl hd (λrest hr=>?_) (λq=>absurd q (by show ¬(bY 6=1\/bY 6=2\/bY 6=5\/bY 6=6);decide))
  have tK:qz (bN rest)<3:=hr
  exact Pe.not (ts:= [eZ uH]++jF a 3++rest) rfl (ra.text 3 I rest I)
 have hv:1<=h.value/\h.value<=1000000000000/\h=⟨20,h.value,0,0,[]⟩:=by rw[if_neg I,if_neg I,if_pos e] at h2;exact h2
 obtain⟨v1,v2,hh⟩:=hv;generalize h.value=v at*;subst hh;refine Rd.af3 hd (by show bY 20=1\/bY 20=2\/bY 20=5\/bY 20=6;decide) (λrest r hr hp=>?_);have hb:cB (.un ⟨20,v,0,0,[]⟩ a)++rest=jF a 6++(eZ mM::iy v::rest):=by have:cB (.un ⟨20,v,0,0,[]⟩ a)=jF a 6++ [eZ mM,iy v]:=rfl;rw[this];simp
 rw[hb];exact ra.af2 6 I _ r (by show qz mM<=6;decide) (Pe.per (ts:=eZ mM::iy v::rest) rfl (abZ I v2 v1 v2 rest) hp)
theorem aob{a b:Ex}(ok:eG (.bi h a b)=Z)(ra:Rd a)(rb:Rd b):Rd (.bi h a b):=by
 have hd:=ab1 _ ok;simp only[eG,bq] at ok;have rE:=Pb ok.1;have h2:=RV ok.1;have ha:arity h.kind=2:=rE.2.2.symm;have iV:7<=h.kind/\h.kind<=19:=by
  unfold arity at ha;split at ha;·cases ha
  split at ha;·assumption
  cases ha
 have hh:h=hk h.kind:=by rw[if_neg I,if_neg I,if_neg I,if_neg I] at h2;exact h2
 generalize lD:h.kind=k at*;subst hh;cases e:xz k with
 |none=>
  have qF:k=10\/k=11:=by have:k=7\/k=8\/k=9\/k=10\/k=11\/k=12\/k=13\/k=14\/k=15\/k=16\/k=17\/k=18\/k=19:=I;rcases this with rfl|rfl|rfl|rfl|rfl|rfl|rfl|rfl|rfl|rfl|rfl|rfl|rfl<;>first|exact .inl rfl|exact .inr rfl|(revert e;decide)
  have main:∀w,(w=oQ\/w=mY)->k=(if w=mY then 11 else 10)->cB (.bi (hk k) a b)=eZ w::bn [40]::cB a++ [bn [44]]++cB b++ [bn [41]]->∀rest,Pe .iU (cB (.bi (hk k) a b)++rest) (.bi (hk k) a b,rest):=by intro w hw KV hb rest;obtain⟨n,hn⟩:=Pe.app (ra.at_ 0 (by have:=Vk a.hd.kind;omega) ([bn [44]]++(cB b++([bn [41]]++rest))) (by show qz [44]<1;decide));obtain⟨m,hm⟩:=Pe.app (rb.at_ 0 (by have:=Vk b.hd.kind;omega) ([bn [41]]++rest) abH);rw[hb];refine⟨max n m+1,?_⟩;have ht:bN (eZ w::bn [40]::cB a++ [bn [44]]++cB b++ [bn [41]]++rest)=w:=rfl;have e3:(eZ w::bn [40]::cB a++ [bn [44]]++cB b++ [bn [41]]++rest).tail=bn [40]::(cB a++([bn [44]]++(cB b++([bn [41]]++rest)))):=aG;have h1:=hn (max n m) (Nat.le_max_left _ _);have h2:=hm (max n m) (Nat.le_max_right _ _);simp only[pE];rw[ht,e3,if_neg UT,if_neg UT,if_pos hw];simp only[eF,bn,if_true,bZ] at h1 h2 |-;rw[h1];simp only[bZ,o6,wF,if_true] at h2 |-;rw[h2];simp only[bZ,if_true,qh];rw[<-KV]
  refine Rd.Zh hd ?_ ?_;·show bY k=8;rcases qF with rfl|rfl<;>decide
  rcases qF with rfl|rfl;·exact main oQ (.inl rfl) aL rfl
  exact main mY (.inr rfl) aL rfl
 |some o=>
  obtain⟨hm,aX⟩:=Ze e;have hL:bY k=o.2.2:=ab0 e;have hl:=abU hm;have hb:cB (.bi (hk k) a b)=jF a (if o.2.2=4 then 5 else o.2.2)++([Ho o.1]++jF b (o.2.2+1)):=by have:(hk k).kind=k:=rfl;simp only[cB,this,e,xw];rfl
  by_cases h4:o.2.2=4
  ·refine Rd.Vl hd (λrest hr=>?_) (λq=>?_);·have tK:qz (bN rest)<max (bY k) 1:=hr;rw[hL,h4] at tK;show Pe (.bG (bY k)) _ _;rw[hL,h4,hb,if_pos h4,h4];have hf:=afW hm (jF b 5++rest);rw[h4] at hf;have e5:jF a 5++([Ho o.1]++jF b (4+1))++rest=jF a 5++(Ho o.1::(jF b 5++rest)):=aG;rw[e5,<-aX];exact Pe.rel' hf.1 (ra.text 5 I _ (by show qz o.1<5;rw[hf.2.1];omega)) (rb.text 5 I rest I)
   have q':bY k=1\/bY k=2\/bY k=5\/bY k=6:=q;omega
  refine Rd.af3 hd (by show bY k=1\/bY k=2\/bY k=5\/bY k=6;omega) (λrest r hr hp=>?_);have tK:qz (bN rest)<=bY k:=hr;have DX:Pe (.loop (bY k) (.bi (hk k) a b)) rest r:=hp;show Pe (.bin (bY k)) _ _;rw[hL] at tK DX |-;rw[hb,if_neg h4];have hf:=afW hm (jF b (o.2.2+1)++rest);have e5:jF a o.2.2++([Ho o.1]++jF b (o.2.2+1))++rest=jF a o.2.2++(Ho o.1::(jF b (o.2.2+1)++rest)):=aG;rw[e5];rw[<-aX] at DX;refine ra.af2 o.2.2 I _ r (by show qz o.1<=o.2.2;rw[hf.2.1];omega) ?_;exact Pe.op (ts:=Ho o.1::(jF b (o.2.2+1)++rest)) (λq=>hf.2.2 q.2) hf.1 (rb.text (o.2.2+1) I rest I) DX
theorem aoc:∀x:Ex,eG x=Z->Rd x:=by
 intro x;induction x with
 |lf h=>exact an9
 |un h a qg=>intro ok;exact aoa ok (qg (by simp only[eG,bq] at ok;exact ok.2))
 |bi h a b qg vg=>intro ok;exact aob ok (qg (by simp only[eG,bq] at ok;exact ok.2.1)) (vg (by simp only[eG,bq] at ok;exact ok.2.2))
theorem aod(h:eG x=Z)(rest:List Tk):∃n0,∀n,n0<=n->pE n (.bG 0) (jF x 0++(bn [59]::rest))=N (x,bn [59]::rest):=((aoc x h).text 0 I (bn [59]::rest) (by show qz [59]<1;decide)).app
theorem ab3{s:cZ}(h:o5 s=Z):(s.kind=1/\qf s.name=Z/\s.dM=0\/s.kind=2/\s.name= []/\s.dM=0\/s.kind=3/\s.name= []/\1<=s.dM/\s.dM<=99999)/\s.expr.depth<=30/\eG s.expr=Z:=by
 unfold o5 at h;rw[bq,bq,decide_eq_true_eq] at h;refine⟨?_,h.1.2,h.2⟩;have h1:=h.1.1;by_cases e1:s.kind=1;·rw[if_pos e1] at h1;simp only[bq,beq_iff_eq] at h1;exact .inl ⟨e1,h1⟩
 rw[if_neg e1] at h1;by_cases e2:s.kind=2;·rw[if_pos e2] at h1;simp only[bq,beq_iff_eq] at h1;exact .inr (.inl ⟨e2,h1⟩)
 rw[if_neg e2] at h1;by_cases e3:s.kind=3;·rw[if_pos e3] at h1;simp only[bq,beq_iff_eq,iw,decide_eq_true_eq] at h1;exact .inr (.inr ⟨e3,h1⟩)
 rw[if_neg e3] at h1;cases h1
theorem af5{l:List UInt8}(h:qf l=Z)(rest:List Tk):wD (eZ l::rest)=N (l,rest):=by simp only[wD,eZ];rw[if_pos ⟨trivial,(Vj h).2.2⟩]
theorem Fy(l:List UInt8)(k:Int)(rest:List Tk):eF l ((k,l)::rest)=N rest:=by simp[eF]
theorem aoe{s:cZ}(h:o5 s=Z)(rest:List Tk):∃n0,∀n,n0<=n->wE n (rC s++rest)=N (s,rest):=by
 obtain⟨h1,h2,h3⟩:=ab3 h;obtain⟨n0,hn⟩:=aod h3 rest;refine⟨n0,λn fO=>?_⟩;have hx:=hn n fO;obtain⟨kind,dM,name,expr⟩:=s;simp only[] at h1 h2 h3 hx;rcases h1 with⟨rfl,e2,rfl⟩|⟨rfl,rfl,rfl⟩|⟨rfl,rfl,e3⟩
 ·have e:rC ⟨1,0,name,expr⟩++rest=eZ qB::eZ name::bn [61]::(jF expr 0++(bn [59]::rest)):=by simp[rC]
  rw[e];simp only[wE];rw[if_pos (show bN (eZ qB::eZ name::bn [61]::(jF expr 0++(bn [59]::rest)))=qB from rfl),List.tail_cons,af5 e2];simp only[bZ];rw[bn,Fy];simp only[bZ];rw[hx];simp only[bZ];rw[bn,Fy];rfl
 ·have e:rC ⟨2,0,[],expr⟩++rest=eZ qC::(jF expr 0++(bn [59]::rest)):=by simp[rC]
  have eh:bN (eZ qC::(jF expr 0++(bn [59]::rest)))=qC:=rfl;rw[e];simp only[wE];rw[if_neg (by rw[eh];decide),if_pos eh,List.tail_cons,hx];simp only[bZ];rw[bn,Fy];rfl
 have e:rC ⟨3,dM,[],expr⟩++rest=eZ qD::iy dM::(jF expr 0++(bn [59]::rest)):=by simp[rC]
 have eh:bN (eZ qD::iy dM::(jF expr 0++(bn [59]::rest)))=qD:=rfl;rw[e];simp only[wE];rw[if_neg (by rw[eh];decide),if_neg (by rw[eh];decide),if_pos eh,List.tail_cons,Zi e3];simp only[bZ];rw[hx];simp only[bZ];rw[bn,Fy];rfl
theorem aof{s:cZ}(h:o5 s=Z)(rest:List Tk):bN (rC s++rest)≠kU:=by
 obtain⟨h1,_⟩:=ab3 h;obtain⟨kind,dM,name,expr⟩:=s;simp only[] at h1;rcases h1 with⟨rfl,_⟩|⟨rfl,_⟩|⟨rfl,_⟩;·have e:bN (rC ⟨1,dM,name,expr⟩++rest)=qB:=rfl;rw[e];decide
 ·have e:bN (rC ⟨2,dM,name,expr⟩++rest)=qC:=rfl;rw[e];decide
 have e:bN (rC ⟨3,dM,name,expr⟩++rest)=qD:=rfl;rw[e];decide
theorem aog:∀(ss:List cZ),ss.all o5=Z->∀rest,bN rest=kU->∃n0,∀n,n0<=n->∀m,ss.length<m->zk n m (ss.flatMap rC++rest)=N (ss,rest):=by
 intro ss;induction ss with
 |nil=>
  intro _ rest hr;refine⟨0,λn _ m hm=>?_⟩;cases m with
  |zero=>simp at hm
  |succ m=>simp only[zk,List.flatMap_nil,wF];rw[if_pos hr]
 |cons s t ih=>
  intro h rest hr;simp only[zh,bq] at h;obtain⟨n1,h1⟩:=ih h.2 rest hr;obtain⟨n2,h2⟩:=aoe h.1 (t.flatMap rC++rest);refine⟨max n1 n2,λn hn m hm=>?_⟩;cases m with
  |zero=>simp at hm
  |succ m=>have e:(s::t).flatMap rC++rest=rC s++(t.flatMap rC++rest):=aG;rw[e];simp only[zk];rw[if_neg (aof h.1 _),h2 n I];simp only[bZ];rw[h1 n I m (by simpa using hm)];rfl
theorem af6(h:jK r=Z):qf r.name=Z/\r.stmts.length<=30/\(1<=r.az/\r.az<=99999)/\r.stmts.all o5=Z:=by unfold jK iw at h;simp only[bq,decide_eq_true_eq] at h;exact⟨h.1.1.1,h.1.1.2,h.1.2,h.2⟩
theorem aoh(h:jK r=Z)(rest:List Tk):∃n0,∀n,n0<=n->∀m,30<m->Fx n m (KU r++rest)=N (r,rest):=by
 obtain⟨h1,h2,h3,h4⟩:=af6 h;obtain⟨n0,hn⟩:=aog r.stmts h4 (eZ kU::iy r.az::bn [59]::bn [125]::rest) rfl;refine⟨n0,λn fO m hm=>?_⟩;have hx:=hn n fO m I;obtain⟨name,pair,stmts,az⟩:=r;simp only[] at h1 h2 h3 h4 hx;have e:KU ⟨name,pair,stmts,az⟩++rest=eZ uG::eZ name::eZ tF::eZ (if pair then qb else sF)::bn [123]::(stmts.flatMap rC++(eZ kU::iy az::bn [59]::bn [125]::rest)):=by simp[KU]
 have hd:Fw (eZ uG::eZ name::eZ tF::eZ (if pair then qb else sF)::bn [123]::(stmts.flatMap rC++(eZ kU::iy az::bn [59]::bn [125]::rest)))=N ((name,pair),stmts.flatMap rC++(eZ kU::iy az::bn [59]::bn [125]::rest)):=by
  unfold Fw;rw[show eZ uG=(1,uG) from rfl,Fy];simp only[bZ];rw[af5 h1];simp only[bZ];rw[show eZ tF=(1,tF) from rfl,Fy];simp only[bZ];cases pair;·rw[if_neg (by show ¬(sF=qb);decide)];simp only[lK,if_false];rw[show eZ sF=(1,sF) from rfl,Fy];simp only[bZ];rw[bn,Fy];rfl
  rw[if_pos (show bN (eZ (if Z=Z then qb else sF)::_)=qb from rfl),List.tail_cons,bn,Fy];rfl
 have he:JD (eZ kU::iy az::bn [59]::bn [125]::rest)=N (az,rest):=by unfold JD;rw[show eZ kU=(1,kU) from rfl,Fy];simp only[bZ];rw[Zi h3];simp only[bZ];rw[show bn [59]=(3,[59]) from rfl,Fy];simp only[bZ];rw[show bn [125]=(3,[125]) from rfl,Fy];rfl
 rw[e];unfold Fx;rw[hd];simp only[bZ];rw[hx];simp only[bZ];rw[he];rfl
theorem aoi:∀(p:List di),p.all jK=Z->∃n0,∀n,n0<=n->∀m,30<m->∀k,p.length<k->tJ n m k (Nf p)=N p:=by
 intro p;induction p with
 |nil=>
  intro _;refine⟨0,λn _ m _ k hk=>?_⟩;cases k with
  |zero=>simp at hk
  |succ k=>rfl
 |cons r t ih=>
  intro h;simp only[zh,bq] at h;obtain⟨n1,h1⟩:=ih h.2;obtain⟨n2,h2⟩:=aoh h.1 (Nf t);refine⟨max n1 n2,λn hn m hm k hk=>?_⟩;cases k with
  |zero=>simp at hk
  |succ k=>
   have e:Nf (r::t)=KU r++Nf t:=by simp[Nf]
   have aY:¬(KU r++Nf t= []):=by simp[KU]
   rw[e];simp only[tJ];rw[if_neg aY,h2 n I m hm];simp only[bZ];rw[h1 n I m hm k MR];rfl
def tk(l:List UInt8):Option (List Tk):=shape (iK (l.length+1) l 0)
theorem af7(l:List UInt8)(f at_:Nat)(h:l.length<f):shape (iK f l at_)=tk l:=by unfold tk;rw[an1 f l at_ 0,an0 (l.length+1) l f (l.length+1) 0 I h I]
theorem af8:tk []=N []:=rfl
theorem aoj{c:UInt8}(h:c=32\/c=9\/c=10)(rest:List UInt8):tk (c::rest)=tk rest:=by
 have hs:dG X (c::rest)=dG X rest+1:=by rcases h with rfl|rfl|rfl<;>simp[dG,CF]
 have hd:(c::rest).drop (dG X rest+1)=rest.drop (dG X rest):=rfl;unfold tk;rw[show(c::rest).length+1=(rest.length+1)+1 from rfl];have e1:shape (iK (rest.length+1+1) rest 1)=shape (iK (rest.length+1) rest 0):=af7 rest _ 1 I;rw[<-e1];have e2:iK (rest.length+1+1) (c::rest) 0=iK (rest.length+1+1) rest 1:=by simp only[iK];rw[hs,hd];have a1:(0+(dG X rest+1):Nat)=1+dG X rest:=I;rw[a1]
 rw[e2]
theorem Vm{t rest:List UInt8}(ht:t≠ [])(hs:dG X (t++rest)=0)(hn:dB (t++rest)=(kd,t.length))(h0:kd≠0)(hb:Br kd t=X):
  tk (t++rest)=(tk rest).map ((kd,t):: ·):=by have hl:0<t.length:=List.length_pos_iff.2 ht;have e:=afS (r:=t++rest) (f:=(t++rest).length) (at_:=0) (k:=0) (n:=t.length) (kd:=kd) hs UX (by rw[Vn];exact hn) h0 (by rw[Vn,List.take_left];exact hb);rw[Vn,List.take_left,List.drop_left] at e;have e2:tk (t++rest)=shape (iK ((t++rest).length+1) (t++rest) 0):=rfl;rw[e2,e,abS,af7 rest _ _ UX]
def cs(c:UInt8):Bool:= !wC c&& !(c==61)
def calm(rest:List UInt8):Prop:=∀c r,rest=c::r->cs c=Z
theorem aok:calm []:=by intro c r h;cases h
theorem aol{c:UInt8}{r:List UInt8}(h:cs c=Z):calm (c::r):=by intro d q e;injection e with e1 _;subst e1;exact h
def Em(l:List UInt8)(ts:List Tk):Prop:=∀rest,calm rest->tk (l++rest)=(tk rest).map (ts++ ·)
def Ea(l:List UInt8)(ts:List Tk):Prop:=∀rest,tk (l++rest)=(tk rest).map (ts++ ·)
def cst(l:List UInt8):Prop:=∃c r,l=c::r/\cs c=Z
theorem map_map(o:Option (List Tk))(a b:List Tk):(o.map (b++ ·)).map (a++ ·)=o.map ((a++b)++ ·):=by cases o<;>simp
theorem Ea.em{l ts}(h:Ea l ts):Em l ts:=λrest _=>h rest
theorem Ea.a{l ts m us}(h:Ea l ts)(k:Ea m us):Ea (l++m) (ts++us):=λrest=>by rw[xw,h,k,map_map]
theorem Ea.m{l ts m us}(h:Ea l ts)(k:Em m us):Em (l++m) (ts++us):=λrest hr=>by rw[xw,h,k rest hr,map_map]
theorem Em.a{l ts m us}(h:Em l ts)(k:Ea m us)(hm:cst m):Ea (l++m) (ts++us):=λrest=>by obtain⟨c,r,rfl,hc⟩:=hm;rw[xw,h _ (by rw[o6];exact aol hc),k,map_map]
theorem Ea.nil:Ea [] []:=λrest=>by cases e:tk rest<;>simp[e]
theorem ab4{c:UInt8}(h:c=32\/c=9\/c=10):Ea [c] []:=λrest=>by rw[o6,wF,aoj h];cases tk rest<;>simp
theorem zl:Ea [32] []:=ab4 (.inl rfl)
theorem Zj:Ea [9] []:=ab4 (.inr (.inl rfl))
theorem Zk:Ea [10] []:=ab4 (.inr (.inr rfl))
theorem af9{p:UInt8->Bool}{t rest:List UInt8}(ht:t.all p=Z)(hr:∀c r,rest=c::r->p c=X):lW p (t++rest)=t.length:=by
 refine abQ UX (by rw[List.take_left];exact ht) (λh=>?_);rw[eB] at h;cases rest with
 |nil=>simp at h
 |cons c r=>
  have:(t++c::r).getD t.length 0=c:=by simp[dO]
  rw[this];exact hr c r rfl
theorem Vo{c:UInt8}{r:List UInt8}(h1:c≠35)(h2:CF c=X):dG X (c::r)=0:=by simp only[dG];rw[if_neg MU,if_neg (by rw[h2];simp)]
theorem aga(h:R:=by unfold CF;simp only[Bool.or_eq_false_iff,beq_eq_false_iff_ne];refine⟨⟨⟨?_,?_⟩,?_⟩,?_⟩<;>(rintro rfl;revert h;decide)):R:=h
theorem aom{c:UInt8}(h:isLet c=Z):c≠35/\CF c=X:=by
 rw[afP] at h;constructor;·rintro rfl;revert h;decide
 exact aga
theorem aon{c:UInt8}(h:jo c=Z):c≠35/\CF c=X/\isLet c=X:=by
 rw[Za] at h;refine⟨?_,?_,?_⟩;·rintro rfl;revert h;decide
 ·exact aga
 cases e:isLet c with
 |false=>rfl
 |true=>rw[afP] at e;omega
theorem ab5{c:UInt8}(h:cs c=Z):wC c=X/\jo c=X/\c≠61:=by unfold cs at h;simp only[bq,Bool.not_eq_true',beq_eq_false_iff_ne] at h;refine⟨h.1,?_,h.2⟩;have:=h.1;unfold wC at this;simp only[Bool.or_eq_false_iff] at this;exact this.1.2
theorem agb{c:UInt8}{r:List UInt8}(hc:isLet c=Z)(hr:r.all wC=Z)(hl:(c::r).length<=16):Em (c::r) [eZ (c::r)]:=λrest CK=>by
 have hn:wC c=Z:=by simp[wC,hc]
 have hb:=aom hc;have h:=Vm (t:=c::r) (rest:=rest) (kd:=1) aG (by rw[o6];exact Vo hb.1 hb.2) (by
  rw[o6];simp only[dB];rw[if_pos hc,<-o6,af9 (t:=c::r) (by rw[zh,hn,hr];rfl) (λd q e=>(ab5 (CK d q e)).1)]) I (by
  unfold Br;rw[decide_eq_false I];rfl)
 rw[h];rfl
theorem Zl{l:List UInt8}(h:qf l=Z):Em l [eZ l]:=by obtain⟨⟨c,r,rfl,hc,hr⟩,hl,_⟩:=Vj h;exact agb hc hr hl
theorem RY{n:Int}(h0:0<=n)(h1:n<=1000000000000):Em (iG n) [iy n]:=λrest CK=>by
 obtain⟨hv,_,c,r,e,hc⟩:=abX h0 h1;have hb:=aon hc;have ha:(c::r).all jo=Z:=by rw[<-e];unfold CG isNum at hv;simp only[bq] at hv;exact hv.1.1
 have h:=Vm (t:=c::r) (rest:=rest) (kd:=2) aG (by rw[o6];exact Vo hb.1 hb.2.1) (by
  rw[o6];simp only[dB];rw[if_neg (by rw[hb.2.2];simp),if_pos hc,<-o6,af9 ha (λd q e=>(ab5 (CK d q e)).2.1)]) I (by
  unfold Br;rw[<-e,hv];rfl)
 rw[e,h];show _=Option.map _ _;rw[show iy n=(2,c::r) by unfold iy;rw[e]];rfl
theorem vk{c:UInt8}(h: [123,125,40,41,44,59,61,43,45,42].contains c=Z):Ea [c] [bn [c]]:=λrest=>by
 have hm:c=123\/c=125\/c=40\/c=41\/c=44\/c=59\/c=61\/c=43\/c=45\/c=42:=CB;have hx:=Vm (t:= [c]) (rest:=rest) (kd:=3) aG (by rw[o6];exact Vo UJ UJ) (by
  rw[o6,wF];simp only[dB];have h1:isLet c=X:=UJ;have h2:jo c=X:=UJ;have h3:qa.contains ((c::rest).take 2)=X:=by
   cases rest with
   |nil=>rcases hm with rfl|rfl|rfl|rfl|rfl|rfl|rfl|rfl|rfl|rfl<;>decide
   |cons d q=>simp only[List.take_succ_cons,List.take_zero,qa];rcases hm with rfl|rfl|rfl|rfl|rfl|rfl|rfl|rfl|rfl|rfl<;>simp
  have h4:Hl.contains c=Z:=UJ;rw[if_neg (by rw[h1];simp),if_neg (by rw[h2];simp),if_neg (by rw[h3];simp),if_pos h4];rfl) I rfl
 rw[hx];rfl
theorem agc{c:UInt8}(hm:c=60\/c=62):Em [c] [bn [c]]:=λrest CK=>by
 have hx:=Vm (t:= [c]) (rest:=rest) (kd:=3) aG (by rw[o6];exact Vo UU UU) (by
  rw[o6,wF];simp only[dB];have h1:isLet c=X:=UU;have h2:jo c=X:=UU;have h3:qa.contains ((c::rest).take 2)=X:=by
   cases rest with
   |nil=>rcases hm with rfl|rfl<;>decide
   |cons d q=>have:=(ab5 (CK d q rfl)).2.2;simp only[List.take_succ_cons,List.take_zero,qa];rcases hm with rfl|rfl<;>simp[this]
  have h4:Hl.contains c=Z:=UU;rw[if_neg (by rw[h1];simp),if_neg (by rw[h2];simp),if_neg (by rw[h3];simp),if_pos h4];rfl) I rfl
 rw[hx];rfl
theorem Zm{l:List UInt8}(hm:l= [46,46]\/l= [60,61]\/l= [62,61]\/l= [33,61]):Ea l [bn l]:=λrest=>by have hx:=Vm (t:=l) (rest:=rest) (kd:=3) (by rcases hm with rfl|rfl|rfl|rfl<;>simp) (by rcases hm with rfl|rfl|rfl|rfl<;>exact Vo aL aL) (by rcases hm with rfl|rfl|rfl|rfl<;>rfl) I rfl;rw[hx];rfl
theorem Bt{w:List UInt8}(h:zi w=Z):Em w [eZ w]:=by
 have:w=uG\/w=tF\/w=sF\/w=qb\/w=qB\/w=qC\/w=qD\/w=kU\/w=mM\/w=Vh\/w=Vi\/w=uH\/w=oQ\/w=mY\/w=qc\/w=qE\/w=oU\/w=nL:=by simpa[zi,KS] using h
 rcases this with rfl|rfl|rfl|rfl|rfl|rfl|rfl|rfl|rfl|rfl|rfl|rfl|rfl|rfl|rfl|rfl|rfl|rfl<;>exact agb aL aL aL
theorem aoo{o:List UInt8 × Int × Nat}(ho:o∈jd):Em o.1 [Ho o.1]:=by
 simp only[jd,jZ,nJ,or_false] at ho;rcases ho with rfl|rfl|rfl|rfl|rfl|rfl|rfl|rfl|rfl|rfl|rfl;·exact Bt aL
 ·exact Bt aL
 ·exact agc (.inl rfl)
 ·exact(Zm (.inr (.inl rfl))).em
 ·exact(vk aL).em
 ·exact(Zm (.inr (.inr (.inr rfl)))).em
 ·exact(Zm (.inr (.inr (.inl rfl)))).em
 ·exact agc (.inr rfl)
 ·exact(vk aL).em
 ·exact(vk aL).em
 exact(vk aL).em
theorem Bu{l:List UInt8}:cst (32::l):=⟨32,l,rfl,aL⟩
theorem Zn{l:List UInt8}:cst (40::l):=⟨40,l,rfl,aL⟩
theorem Vp{l:List UInt8}:cst (41::l):=⟨41,l,rfl,aL⟩
theorem aop{l:List UInt8}:cst (44::l):=⟨44,l,rfl,aL⟩
theorem agd{l:List UInt8}:cst (59::l):=⟨59,l,rfl,aL⟩
theorem aoq{l:List UInt8}:cst (46::l):=⟨46,l,rfl,aL⟩
theorem RZ(h:Em (fK x) (cB x))(l:Nat):Em (if bY x.hd.kind<l then[40]++fK x++ [41] else fK x) (if bY x.hd.kind<l then[bn [40]]++cB x++ [bn [41]] else cB x):=by
 split;·exact(((vk aL).m h).a (vk aL) Vp).em
 exact h
theorem age{w:List UInt8}{a b:Int}(hw:zi w=Z)(ha:1<=a/\a<=99999)(hb:1<=b/\b<=99999):Em (w++ [40]++iG a++ [46,46]++iG b++ [41]) [eZ w,bn [40],iy a,bn [46,46],iy b,bn [41]]:=((((((Bt hw).a (vk aL) Zn).m (RY I I)).a (Zm (.inl rfl)) aoq).m (RY I I)).a (vk aL) Vp).em
theorem aor:∀x:Ex,eG x=Z->Em (fK x) (cB x):=by
 intro x;induction x with
 |lf h=>
  intro ok;have rE:=Pb (show oZ h 0=Z from ok);have h2:=RV (show oZ h 0=Z from ok);have ha:arity h.kind=0:=rE.2.2.symm;have iV:h.kind=1\/h.kind=2\/h.kind=21\/h.kind=22:=by
   unfold arity at ha;split at ha;·cases ha
   split at ha;·cases ha
   omega
  rcases iV with e|e|e|e;·rw[if_pos e] at h2;simp only[fK,cB,e,if_true];exact RY h2.1 h2.2.1
  ·rw[if_neg I,if_pos e] at h2;have e1:fK (.lf h)=h.name:=abI;have e2:cB (.lf h)= [eZ h.name]:=MN;rw[e1,e2];exact Zl h2.1
  ·rw[if_neg I,if_neg I,if_neg I,if_pos (.inl e)] at h2;have e1:fK (.lf h)=qE++ [40]++iG h.from_++ [46,46]++iG h.az++ [41]:=abI;have e2:cB (.lf h)= [eZ qE,bn [40],iy h.from_,bn [46,46],iy h.az,bn [41]]:=MN;rw[e1,e2];exact age aL h2.1 h2.2.1
  rw[if_neg I,if_neg I,if_neg I,if_pos (.inr e)] at h2;have e1:fK (.lf h)=oU++ [40]++iG h.from_++ [46,46]++iG h.az++ [41]:=abI;have e2:cB (.lf h)= [eZ oU,bn [40],iy h.from_,bn [46,46],iy h.az,bn [41]]:=MN;rw[e1,e2];exact age aL h2.1 h2.2.1
 |un h a qg=>
  intro ok;simp only[eG,bq] at ok;have rE:=Pb ok.1;have h2:=RV ok.1;have ha:arity h.kind=1:=rE.2.2.symm;have ih:=qg ok.2;have iV:h.kind=3\/h.kind=4\/h.kind=5\/h.kind=6\/h.kind=20:=by
   unfold arity at ha;split at ha;·omega
   split at ha<;>cases ha
  rcases iV with e|e|e|e|e;·simp only[fK,cB,e,if_true];exact(vk aL).m (RZ ih 7)
  ·simp only[fK,cB,e];exact((((Bt (w:=qc) aL).a (vk aL) Zn).m ih).a (vk aL) Vp).em
  ·simp only[fK,cB,e];exact((((Bt (w:=nL) aL).a (vk aL) Zn).m ih).a (vk aL) Vp).em
  ·simp only[fK,cB,e];exact((Bt (w:=uH) aL).a zl Bu).m (RZ ih 3)
  rw[if_neg I,if_neg I,if_pos e] at h2;simp only[fK,cB,e];have:=((((RZ ih 6).a zl Bu).m (Bt (w:=mM) aL)).a zl Bu).m (RY (n:=h.value) I h2.2.1);simpa using this
 |bi h a b qg vg=>
  intro ok;simp only[eG,bq] at ok;have i1:=qg ok.2.1;have i2:=vg ok.2.2;cases e:xz h.kind with
  |none=>
   simp only[fK,cB,e];have hw:Em (if h.kind=10 then oQ else mY) [eZ (if h.kind=10 then oQ else mY)]:=by split<;>exact Bt aL
   have:=(((((hw.a (vk (c:=40) aL) Zn).m i1).a ((vk (c:=44) aL).a zl) aop).m i2).a (vk (c:=41) aL) Vp).em;simpa using this
  |some o=>simp only[fK,cB,e];have:=((((RZ i1 (if o.2.2=4 then 5 else o.2.2)).a zl Bu).m (aoo (Ze e).1)).a zl Bu).m (RZ i2 (o.2.2+1));simpa using this
theorem aos(h:eG x=Z)(l:Nat):Em (eQ x l) (jF x l):=RZ (aor x h) l
theorem aot{s:cZ}(h:o5 s=Z):Ea (om s) (rC s):=by
 obtain⟨h1,_,h3⟩:=ab3 h;have he:=aos h3 0;obtain⟨kind,dM,name,expr⟩:=s;simp only[] at h1 he;have tail:Ea (eQ expr 0++ [59,10]) (jF expr 0++ [bn [59]]):=by have:=he.a ((vk (c:=59) aL).a Zk) agd;simpa using this
 rcases h1 with⟨rfl,e2,rfl⟩|⟨rfl,rfl,rfl⟩|⟨rfl,rfl,e3⟩;·have:=((((Zj.m (Bt (w:=qB) aL)).a zl Bu).m (Zl e2)).a ((zl.a (vk (c:=61) aL)).a zl) Bu).a tail;have e1:om ⟨1,0,name,expr⟩= [9]++qB++ [32]++name++ [32,61,32]++(eQ expr 0++ [59,10]):=rfl;rw[e1];simpa[rC] using this
 ·have:=((Zj.m (Bt (w:=qC) aL)).a zl Bu).a tail;have e1:om ⟨2,0,[],expr⟩= [9]++qC++ [32]++(eQ expr 0++ [59,10]):=rfl;rw[e1];simpa[rC] using this
 have:=((((Zj.m (Bt (w:=qD) aL)).a zl Bu).m (RY (n:=dM) I I)).a zl Bu).a tail;have e1:om ⟨3,dM,[],expr⟩= [9]++qD++ [32]++iG dM++ [32]++(eQ expr 0++ [59,10]):=rfl;rw[e1];simpa[rC] using this
theorem agf{f:α->List UInt8}{g:α->List Tk}:∀l:List α,(∀x∈l,Ea (f x) (g x))->Ea (l.flatMap f) (l.flatMap g):=by
 intro l;induction l with
 |nil=>intro _;exact Ea.nil
 |cons x t ih=>intro h;rw[Hq,Hq];exact(h x aG).a (ih λy hy=>h y (by simp[hy]))
theorem aou(h:jK r=Z):Ea (Hm r) (KU r):=by
 obtain⟨h1,h2,h3,h4⟩:=af6 h;have hs:Ea (r.stmts.flatMap om) (r.stmts.flatMap rC):=agf _ λs hs=>aot (xD.1 h4 s hs);obtain⟨name,pair,stmts,az⟩:=r;simp only[] at h1 h2 h3 h4 hs;have hp:Em (if pair then qb else sF) [eZ (if pair then qb else sF)]:=by cases pair<;>exact Bt aL
 have hh:=((((((Bt (w:=uG) aL).a zl Bu).m (Zl h1)).a zl Bu).m (Bt (w:=tF) aL)).a zl Bu).m hp;have hb:Ea [32,123,10] [bn [123]]:=by have:=(zl.a (vk (c:=123) aL)).a Zk;simpa using this
 have he:Ea [59,10,125,10] [bn [59],bn [125]]:=by have:=(((vk (c:=59) aL).a Zk).a (vk (c:=125) aL)).a Zk;simpa using this
 have ht:=(((Zj.m (Bt (w:=kU) aL)).a zl Bu).m (RY (n:=az) I I)).a he agd;have:=((hh.a hb Bu).a hs).a ht;have e1:Hm ⟨name,pair,stmts,az⟩=uG++ [32]++name++ [32]++tF++ [32]++(if pair then qb else sF)++ [32,123,10]++stmts.flatMap om++([9]++kU++ [32]++iG az++ [59,10,125,10]):=rfl;rw[e1];simpa[KU] using this
theorem aov{p:List di}(h:p.all jK=Z):tk (Fv p)=N (Nf p):=by have:=agf p (λr hr=>aou (xD.1 h r hr)) [];rw[List.append_nil,af8] at this;simpa[Fv,Nf] using this
theorem aow{p:List di}(h:p.all jK=Z):∃n0,∀n,n0<=n->∀m,30<m->∀k,p.length<k->(tk (Fv p)).bind (tJ n m k)=N p:=by obtain⟨n0,hn⟩:=aoi p h;exact⟨n0,λn fO m hm k hk=>by rw[aov h];exact hn n fO m hm k hk⟩
def Fz(x:Int):Bool:=decide (97<=x)&&decide (x<=122)
def FD(x:Int):Bool:=decide (48<=x)&&decide (x<=57)
def Zo(x:Int):Bool:=Fz x||FD x||decide (x=95)
theorem aox(l:List UInt8)(k:Nat)(h:k<(⟨l.toArray⟩:ByteArray).size):Fz ((⟨l.toArray⟩:ByteArray)[k]'h).toNat=isLet (l.getD k 0):=by rw[JB];unfold Fz isLet;rw[FH];simp;omega
theorem aoy(l:List UInt8)(k:Nat)(h:k<(⟨l.toArray⟩:ByteArray).size):FD ((⟨l.toArray⟩:ByteArray)[k]'h).toNat=jo (l.getD k 0):=by rw[JB];unfold FD jo;rw[FH];simp;omega
theorem ae8(b:UInt8):FD b.toNat=jo b:=by unfold FD jo;rw[FH];simp;omega
theorem aoz(b:UInt8):Fz b.toNat=isLet b:=by unfold Fz isLet;rw[FH];simp;omega
theorem aoA(b:UInt8):Zo b.toNat=wC b:=by
 unfold Zo wC;rw[aoz,ae8];congr 1;rw[FH];simp only[decide_eq_true_eq,beq_iff_eq];constructor;·intro h;exact UInt8.toNat_inj.1 (by rw[show(95:UInt8).toNat=95 from rfl];omega)
 rintro rfl;rfl
theorem aoB{x:Int}:Fz x=Z↔97<=x/\x<=122:=by simp[Fz]
theorem aoC{x:Int}:FD x=Z↔48<=x/\x<=57:=by simp[FD]
theorem aoD{x:Int}(h:Fz x=X):x<97\/122<x:=by simp[Fz] at h;omega
theorem aoE{x:Int}(h:FD x=X):x<48\/57<x:=by simp[FD] at h;omega
theorem R6(x:Int)(w:Y):aF aa 135 #[C .u8 x] w λe w'=>e=aI (Fz x)/\w=w':=by
 cases h:Fz x
 ·rcases aoD h with g|g;·clear h;go_enter func135,ntmps135;go_wp2_with fail;go_ret;exact⟨rfl,rfl⟩
  clear h;go_enter func135,ntmps135;go_wp2_with fail;go_ret;exact⟨ik fI,rfl⟩
 obtain⟨g1,g2⟩:=aoB.1 h;clear h;go_enter func135,ntmps135;go_wp2_with fail;go_ret;exact⟨rfl,rfl⟩
theorem Pd(x:Int)(w:Y):aF aa 138 #[C .u8 x] w λe w'=>e=aI (FD x)/\w=w':=by
 cases h:FD x
 ·rcases aoE h with g|g;·clear h;go_enter func138,ntmps138;go_wp2_with fail;go_ret;exact⟨rfl,rfl⟩
  clear h;go_enter func138,ntmps138;go_wp2_with fail;go_ret;exact⟨ik fI,rfl⟩
 obtain⟨g1,g2⟩:=aoC.1 h;clear h;go_enter func138,ntmps138;go_wp2_with fail;go_ret;exact⟨rfl,rfl⟩
theorem aoF(x:Int)(w:Y):aF aa 137 #[C .u8 x] w λe w'=>e=aI (Zo x)/\w=w':=by
 unfold Zo;cases h1:Fz x
 ·cases h2:FD x;·go_enter func137,ntmps137;go_wp2_with fail;refine(R6 _ _).mono ?_;rintro e wx ⟨rfl,rfl⟩;rw[h1];go_wp2_with fail;refine(Pd _ _).mono ?_;rintro e wx ⟨rfl,rfl⟩;rw[h2];go_wp2_with fail;go_ret;exact⟨ik (by rw[FH];simp),rfl⟩
  go_enter func137,ntmps137;go_wp2_with fail;refine(R6 _ _).mono ?_;rintro e wx ⟨rfl,rfl⟩;rw[h1];go_wp2_with fail;refine(Pd _ _).mono ?_;rintro e wx ⟨rfl,rfl⟩;rw[h2];go_wp2_with fail;go_ret;exact⟨rfl,rfl⟩
 go_enter func137,ntmps137;go_wp2_with fail;refine(R6 _ _).mono ?_;rintro e wx ⟨rfl,rfl⟩;rw[h1];go_wp2_with fail;go_ret;exact⟨rfl,rfl⟩
theorem Zp(Fu:FuncId)(p:UInt8->Bool)(oo:∀(args:Array ak) (w:Y),(callFunc Fu args).run aa w= .ok (.enter Fu args) w)(hF:∀(b:UInt8) (w:Y),aF aa Fu #[C .u8 b.toNat] w λe w'=>e=aI (p b)/\w=w')(l:List UInt8)(w:Y)(hl:l.length<=9223372036854775806):
  aF aa 136 #[l,.func (.func Fu) #[] #[]] w λe w'=>e=aI (C D (lW p l))/\w=w':=by
 have HF:=G hF;clear hF;go_enter func136,ntmps136;go_wp2_with fail;go_loop [8] (λi=>∃k:Nat,k<=l.length/\i=C D k/\(l.take k).all p=Z) (λi=>l.length-(intOf i).toNat);case atStart=>exact⟨0,FI _,rfl,rfl⟩
 obtain⟨k,hk,rfl,hd⟩:=hrel;have HD:=G hd;clear hd;by_cases aO:k<l.length
 ·have bV:k<(⟨l.toArray⟩:ByteArray).size:=by rw[MX];exact aO
  have hg:=JB l k bV;have HG:=G hg;clear hg;cases hc:p (l.getD k 0);·have F:=G (abQ (p:=p) (l:=l) (k:=k) I HD (λ_=>hc));have HC:=G hc;clear hc;go_wp2_with fail;refine(HF _ _).mono ?_;rintro e wx ⟨rfl,rfl⟩;rw[HG.E,HC.E];go_wp2_with fail;go_ret;exact⟨M9 RD,rfl⟩
  have F:=G (anQ aO HD hc);have HC:=G hc;clear hc;go_wp2_with fail;refine(HF _ _).mono ?_;rintro e wx ⟨rfl,rfl⟩;rw[HG.E,HC.E];go_wp2_with fail;go_round;case rel=>exact⟨k+1,I,bR,F⟩
  simp[intOf];omega
 have iR:k=l.length:=by omega
 have F:=G (Vg.2 (by have:=HD;rwa [o7 I] at this));clear iR;go_wp2_with fail;go_ret;exact⟨M9 RD,rfl⟩
theorem ab6(args:Array ak)(w:Y):(callFunc 138 args).run aa w= .ok (.enter 138 args) w:=by simp[go_sem]
theorem aoG(args:Array ak)(w:Y):(callFunc 137 args).run aa w= .ok (.enter 137 args) w:=by simp[go_sem]
theorem aoH(l:List UInt8)(i:Nat)(h:i<l.length):(⟨l.toArray⟩:ByteArray).get! i=l.getD i 0:=by show(l.toArray)[i]! =_;rw[getElem!_pos _ _ CB];simp[dO,h]
theorem aoI(l:List UInt8)(pos:Nat)(h:pos<l.length)(hb:128<=(l.getD pos 0).toNat):
  128<=(Utf8.decode ⟨l.toArray⟩ pos).1/\1<=(Utf8.decode ⟨l.toArray⟩ pos).2/\pos+(Utf8.decode ⟨l.toArray⟩ pos).2<=l.length/\∀j,j<(Utf8.decode ⟨l.toArray⟩ pos).2->128<=(l.getD (pos+j) 0).toNat:=by
 have bV:(⟨l.toArray⟩:ByteArray).size=l.length:=MX l;have hp:pos<(⟨l.toArray⟩:ByteArray).size:=by rw[bV];exact h
 have hd:=decode_high ⟨l.toArray⟩ pos hp (by rw[JB];exact hb);refine⟨hd.1,hd.2,?_⟩;clear hd;have c:∀k,(decide (pos+k<(⟨l.toArray⟩:ByteArray).size)&&((⟨l.toArray⟩:ByteArray).get! (pos+k)).toNat/64==2)=Z->pos+k<l.length/\128<=(l.getD (pos+k) 0).toNat:=by
  intro k hk;simp only[bq,decide_eq_true_eq,beq_iff_eq] at hk;have h1:pos+k<l.length:=by have:=hk.1;rwa [bV] at this
  rw[aoH _ _ h1] at hk;exact⟨h1,I⟩
 have one:∀j,j<1->128<=(l.getD (pos+j) 0).toNat:=by intro j hj;obtain rfl:j=0:=I;exact hb
 unfold Utf8.decode;simp only[];split;·exact⟨Fe,one⟩
 split
 ·rename_i h2;simp only[bq] at h2;have c1:=c 1 (by simpa using h2.2);split
  ·refine⟨Fe,λj hj=>?_⟩;obtain rfl|rfl:j=0\/j=1:=by simp at hj;omega
   ·exact hb
   exact c1.2
  exact⟨Fe,one⟩
 split
 ·rename_i h3;simp only[bq] at h3;have c1:=c 1 (by simpa using h3.1.2);have c2:=c 2 (by simpa using h3.2);split
  ·refine⟨Fe,λj hj=>?_⟩;obtain rfl|rfl|rfl:j=0\/j=1\/j=2:=by simp at hj;omega
   ·exact hb
   ·exact c1.2
   exact c2.2
  exact⟨Fe,one⟩
 split
 ·rename_i h4;simp only[bq] at h4;have c1:=c 1 (by simpa using h4.1.1.2);have c2:=c 2 (by simpa using h4.1.2);have c3:=c 3 (by simpa using h4.2);split
  ·refine⟨Fe,λj hj=>?_⟩;obtain rfl|rfl|rfl|rfl:j=0\/j=1\/j=2\/j=3:=by simp at hj;omega
   ·exact hb
   ·exact c1.2
   ·exact c2.2
   exact c3.2
  exact⟨Fe,one⟩
 exact⟨Fe,one⟩
theorem agh{l:List UInt8}(h:k<l.length):l.drop k=l.getD k 0::l.drop (k+1):=by rw[DY h];simp[dO,h]
theorem aoJ(l:List UInt8):∀(w pos:Nat),pos+w<=l.length->(∀j,j<w->(l.getD (pos+j) 0==10)=X)->dG Z (l.drop pos)=w+dG Z (l.drop (pos+w)):=by
 intro w;induction w with
 |zero=>intro pos _ _;simp
 |succ w ih=>intro pos h hj;have h0:=hj 0 I;rw[mZ] at h0;have:=ih (pos+1) I (λj hjw=>by have:=hj (j+1) I;rwa [show pos+(j+1)=pos+1+j from by omega] at this);rw[agh I,dG,h0];simp only[lK,if_false];rw[this,show pos+1+w=pos+(w+1) from by omega];omega
theorem Zq{l:List UInt8}{b:UInt8}(h:k<l.length)(hb:l.getD k 0=b):
  dG Z (l.drop k)=(if b==10 then dG X (l.drop (k+1)) else dG Z (l.drop (k+1)))+1/\
  dG X (l.drop k)=(if b==35 then dG Z (l.drop (k+1))+1 else if CF b then dG X (l.drop (k+1))+1 else 0):=by subst hb;rw[agh h];exact⟨rfl,rfl⟩
theorem agi(w:Y)(l:List UInt8)(pos:Nat)(h:pos<l.length):∃(r:Int) (wd:Nat),
  (∀ty,(Instr.next (aQ w) Z ty).run aa (w.iter ⟨l.toArray⟩ pos)= .ok (bz #[Z,pos,C .i32 r]) (w.iter ⟨l.toArray⟩ (pos+wd)))/\
  ((r=(l.getD pos 0).toNat/\r<128/\wd=1)\/(128<=r/\1<=wd/\pos+wd<=l.length/\∀j,j<wd->128<=(l.getD (pos+j) 0).toNat)):=by
 have hp:pos<(⟨l.toArray⟩:ByteArray).size:=by rw[MX];exact h
 refine⟨_,_,λty=>run_next_any w ⟨l.toArray⟩ pos ty hp,?_⟩;by_cases hb:(l.getD pos 0).toNat<128;·have e:=decode_ascii ⟨l.toArray⟩ pos hp (by rw[JB];exact hb);rw[e,JB];exact .inl ⟨rfl,I,rfl⟩
 obtain⟨h1,h2,h3,h4⟩:=aoI l pos h I;exact .inr ⟨I,h2,h3,h4⟩
theorem byte_of{b:UInt8}(h:(b.toNat:Int)=k):b=Ve k:=by have:b.toNat=k:=I;rw[<-this];simp
theorem Pf{b:UInt8}(hk:k<256)(h:¬(b.toNat:Int)=k):(b==Ve k)=X:=by rw[beq_eq_false_iff_ne];rintro rfl;apply h;simp[Nat.mod_eq_of_lt hk]
theorem aoK(l:List UInt8)(w:Y)(hl:l.length<=9223372036854775806):
  aF aa 71 #[l] w λe w'=>e=aI (C D (dG X l))/\aj w w w':=by
 have hB:∀p,aj w w (w.iter ⟨l.toArray⟩ p):=λp=>(aN _ _).alloc (aC _) _;have HB:=G hB;clear hB;go_enter func71,ntmps71;go_wp2_with fail;go_loopw [3] (λc w'=>∃(pos:Nat) (b:Bool),w'=w.iter ⟨l.toArray⟩ pos/\c=ax b/\pos<=l.length/\dG X l=pos+dG b (l.drop pos)) (λ_ w'=>l.length-w'.iterPos w);case atStart=>exact⟨0,X,rfl,rfl,I,aG⟩
 obtain⟨pos,b,rfl,rfl,fO,hs⟩:=hrel;have HS:=G hs;clear hs;by_cases aO:pos<l.length
 ·obtain⟨r,wd,vo,hr⟩:=agi w l pos aO;by_cases h10:r=10
  ·obtain⟨e1,_,e2⟩:r=(l.getD pos 0).toNat/\r<128/\wd=1:=by
    rcases hr with h|h
    ·exact h
    omega
   subst h10
   subst e2
   have hb:=byte_of (k:=10) e1.symm
   obtain⟨s1,s2⟩:=Zq aO hb
   have F:af (dG X l=pos+1+dG X (l.drop (pos+1))):=by
    show _=_
    rw[HS.E]
    cases b
    ·rw[s2];simp[CF];omega
    rw[s1];simp;omega
   clear hr e1 hb s1 s2
   go_wp2_with fail
   go_roundw
   case rel=>exact⟨pos+1,X,rfl,rfl,I,F⟩
   simp;omega
  have d10:(r==10)=X:=by rw[beq_eq_false_iff_ne];exact h10
  have ds:wd<=1\/1<=wd:=I;cases b
  ·by_cases Zr:r=35
   ·obtain⟨e1,_,e2⟩:r=(l.getD pos 0).toNat/\r<128/\wd=1:=by
     rcases hr with h|h
     ·exact h
     omega
    subst Zr
    subst e2
    have hb:=byte_of (k:=35) e1.symm
    obtain⟨s1,s2⟩:=Zq aO hb
    have F:af (dG X l=pos+1+dG Z (l.drop (pos+1))):=by
     show _=_
     rw[HS.E,s2];simp;omega
    clear hr e1 hb s1 s2 h10 d10
    go_wp2_with fail
    go_roundw
    case rel=>exact⟨pos+1,Z,rfl,rfl,I,F⟩
    simp;omega
   have d35:(r==35)=X:=by rw[beq_eq_false_iff_ne];exact Zr
   by_cases fq:r=32\/r=9\/r=13
   ·obtain⟨e1,_,e2⟩:r=(l.getD pos 0).toNat/\r<128/\wd=1:=by
     rcases hr with h|h
     ·exact h
     omega
    subst e2
    have hb:CF (l.getD pos 0)=Z/\(l.getD pos 0==35)=X:=by
     rcases fq with h|h|h
     ·rw[byte_of (k:=32) (by omega:((l.getD pos 0).toNat:Int)=(32:Nat))];decide
     ·rw[byte_of (k:=9) (by omega:((l.getD pos 0).toNat:Int)=(9:Nat))];decide
     rw[byte_of (k:=13) (by omega:((l.getD pos 0).toNat:Int)=(13:Nat))];decide
    obtain⟨s1,s2⟩:=Zq (b:=l.getD pos 0) aO rfl
    have F:af (dG X l=pos+1+dG X (l.drop (pos+1))):=by
     show _=_
     rw[HS.E,s2,hb.2,hb.1];simp;omega
    clear hr e1 hb s1 s2
    rcases fq with rfl|rfl|rfl
    all_goals
     clear h10 Zr d10 d35
     go_wp2_with fail
     go_roundw
     case rel=>exact⟨pos+1,X,rfl,rfl,I,F⟩
     simp;omega
   have d32:(r==32)=X:=by rw[beq_eq_false_iff_ne];omega
   have d9:(r==9)=X:=iO;have d13:(r==13)=X:=iO;have hb:CF (l.getD pos 0)=X/\(l.getD pos 0==35)=X:=by
    have hh:¬((l.getD pos 0).toNat:Int)=(32:Nat)/\¬((l.getD pos 0).toNat:Int)=(9:Nat)/\¬((l.getD pos 0).toNat:Int)=(10:Nat)/\¬((l.getD pos 0).toNat:Int)=(13:Nat)/\¬((l.getD pos 0).toNat:Int)=(35:Nat):=by
     rcases hr with h|h;·omega
     have:=h.2.2.2 0 I;rw[mZ] at this;omega
    obtain⟨g1,g2,g3,g4,g5⟩:=hh;have q1:=Pf I g1;have q2:=Pf I g2;have q3:=Pf I g3;have q4:=Pf I g4;have q5:=Pf I g5;refine⟨?_,q5⟩;unfold CF;simp only[Bool.or_eq_false_iff];exact⟨⟨⟨q1,q2⟩,q3⟩,q4⟩
   obtain⟨s1,s2⟩:=Zq (b:=l.getD pos 0) aO rfl;have F:af (dG X l=pos):=by show _=_;rw[HS.E,s2,hb.2,hb.1];simp
   clear hr hb s1 s2 h10 Zr fq ds;go_wp2_with fail;go_ret;exact⟨M9 RD,HB _⟩
  have hw:pos+wd<=l.length/\1<=wd/\∀j,j<wd->(l.getD (pos+j) 0==10)=X:=by
   rcases hr with⟨e1,_,rfl⟩|⟨_,e2,e3,e4⟩;·refine⟨I,I,λj hj=>?_⟩;obtain rfl:j=0:=I;exact Pf (k:=10) I (by rw[mZ];omega)
   refine⟨e3,e2,λj hj=>Pf (k:=10) I ?_⟩;have:=e4 j hj;omega
  obtain⟨w1,w2,w3⟩:=hw;have F:af (dG X l=pos+wd+dG Z (l.drop (pos+wd))):=by show _=_;rw[HS.E,aoJ l wd pos w1 w3];omega
  clear hr w3 h10 ds;go_wp2_with fail;go_roundw;case rel=>exact⟨pos+wd,Z,rfl,rfl,I,F⟩
  simp;omega
 have vo:∀ty,(Instr.next (aQ w) Z ty).run aa (w.iter ⟨l.toArray⟩ pos)=_:=λty=>run_next_end w ⟨l.toArray⟩ pos ty YY;have F:af (dG X l=l.length):=by show _=_;have e:pos=l.length:=I;rw[HS.E,e,List.drop_length];cases b<;>rfl
 go_wp2_with fail;go_ret;exact⟨M9 RD,HB _⟩
def strs(xs:List (List UInt8)):List ak:=xs.map λx=>au ⟨x.toArray⟩
def Pg(xs:List (List UInt8))(s:List UInt8):Bool:=xs.contains s
theorem ab7{l:List UInt8}(h:0<l.length):dB l=if isLet (l.getD 0 0) then(1,lW wC l) else if jo (l.getD 0 0) then(2,lW jo l) else if qa.contains (l.take 2) then(3,2) else if Hl.contains (l.getD 0 0) then(3,1) else(0,0):=by
 cases l with
 |nil=>simp at h
 |cons c r=>rfl
theorem fieldsD(w:Y)(hE:Env w):aF aa 140 #[au ⟨#[46,46,32,60,61,32,62,61,32,33,61]⟩] w λe w'=>
  e=aI (O w 4 4)/\w'=w.alloc (ag (strs qa).toArray 9):=by
 have h:=strings_Fields ⟨#[46,46,32,60,61,32,62,61,32,33,61]⟩ w aL (by
  intro j b hb
  have hm:b∈([46,46,32,60,61,32,62,61,32,33,61]:List UInt8):=Jr hb
  have ha:(([46,46,32,60,61,32,62,61,32,33,61]:List UInt8).all λb=>decide (b.toNat<128))=Z:=aL
  have:=xD.1 ha b hm
  simpa using this) hE.spc
 have e:Lib.fields (⟨#[46,46,32,60,61,32,62,61,32,33,61]⟩:ByteArray).data.toList=qa:=aL
 rw[e] at h
 exact h
theorem aoL(x:List UInt8):Lib.containsS ((qa.map λl=>(⟨l.toArray⟩:ByteArray)).take 4) ⟨x.toArray⟩=qa.contains x:=by rw[FH,Lib.containsS_iff,Vq];simp[qa]
theorem aoM(x:List UInt8)(b:Nat)(w:Y)(hb:w.heap[b]?=N (ag (strs qa).toArray 9 (0,0))):
  aF aa 139 #[O b 4 4,x] w λe w'=>e=aI (qa.contains x)/\w'=w:=by
 have h:=slices_Contains_string b 0 4 4 (qa.map λl=>(⟨l.toArray⟩:ByteArray)) ⟨x.toArray⟩ w aL I (by
  intro j hj;have hj4:j<4:=by simpa[qa] using hj
  rw[Nat.zero_add,ai.cell (w:=w) (t:=9) hb j];obtain rfl|rfl|rfl|rfl:j=0\/j=1\/j=2\/j=3:=I;all_goals rfl)
 rw[aoL] at h;exact h
theorem aoN(c:UInt8):decide (0<=Lib.indexByte (⟨#[123,125,40,41,44,59,61,43,45,42,60,62]⟩:ByteArray).data.toList c)=Hl.contains c:=by
 have h:∀(l:List UInt8),decide (0<=Lib.indexByte l c)=l.contains c:=by
  intro l;induction l with
  |nil=>rfl
  |cons b r ih=>
   unfold Lib.indexByte;have hg:=Lib.indexByte_ge r c;by_cases hb:b=c;·subst hb;simp
   have h1:(b==c)=X:=by simpa using hb
   have h2:(c==b)=X:=by rw[beq_eq_false_iff_ne];exact λh=>hb h.symm
   rw[h1,List.contains_cons,h2,Bool.false_or,<-ih];simp only[lK,if_false];rw[FH,decide_eq_true_eq,decide_eq_true_eq];split;·rename_i h3;have:=eq_of_beq h3;omega
   rename_i h3;have:Lib.indexByte r c≠ -1:=by simpa using h3
   omega
 exact h _
theorem agj(l:List UInt8)(w0:Y):aF aa 139 #[O w0 4 4,au ((⟨l.toArray⟩:ByteArray).extract 0 2)] (w0.alloc (ag (strs qa).toArray 9)).drew λe w'=>e=aI (qa.contains (l.take 2))/\w'=(w0.alloc (ag (strs qa).toArray 9)).drew:=by rw[abP,Vn];exact aoM (l.take 2) w0 _ (ai.new w0 _ _).drew
theorem agk(c:UInt8)(w:Y):aF aa 141 #[au ⟨#[123,125,40,41,44,59,61,43,45,42,60,62]⟩,C .u8 c.toNat] w λe w'=>(∃n:Int,e=aI n/\decide (0<=n)=Hl.contains c)/\w=w':=by
 refine(strings_IndexByte _ _ _).mono ?_;rintro e wx ⟨rfl,rfl⟩;refine⟨⟨_,rfl,?_⟩,rfl⟩;have e:(c.toNat:Int).toNat.toUInt8=c:=by rw[Int.toNat_natCast];simp
 rw[e];exact aoN c
theorem Zt{a b c d:Int}(h:a=c)(h':b=d):aI (bz #[a,b])=aI (bz #[c,d]):=by rw[h,h']
theorem aoO(l:List UInt8)(h0:0<l.length)(h1:isLet (l.getD 0 0)=X)(h2:jo (l.getD 0 0)=X):dB l=if qa.contains (l.take 2) then(3,2) else if Hl.contains (l.getD 0 0) then(3,1) else(0,0):=by rw[ab7 h0,h1,h2];rfl
theorem agl(h:R:=by rintro e wx ⟨rfl,rfl⟩;go_wp2_with fail;go_ret2;exact⟨Zt (by rw[HE.E]) (by rw[HE.E]),aN _ _⟩):R:=h
theorem aoP(l:List UInt8)(w:Y)(hE:Env w)(h0:0<l.length)(hl:l.length<=9000):
  aF aa 72 #[l] w λe w'=>e=aI (bz #[C D (dB l).1,C D (dB l).2])/\aj w w w':=by
 have bV:0<(⟨l.toArray⟩:ByteArray).size:=by rw[MX];exact h0
 have q1:=aox l 0 bV;have q2:=aoy l 0 bV;have HG:=G (JB l 0 bV);generalize hN:dB l=sH;have HN:=G hN;clear hN;cases h1:isLet (l.getD 0 0)
 ·cases h2:jo (l.getD 0 0)
  ·rw[h1] at q1;rw[h2] at q2;have HE:=G (aoO l h0 h1 h2);clear h1 h2;go_enter func72,ntmps72;go_wp2_with fail;refine(R6 _ _).mono ?_;rintro e wx ⟨rfl,rfl⟩;rw[q1];go_wp2_with fail;refine(Pd _ _).mono ?_;rintro e wx ⟨rfl,rfl⟩;rw[q2];go_wp2_with fail;by_cases aO:1<l.length
   ·have hd:decide (1<(l.length:Int))=Z:=by rw[decide_eq_true_eq];omega
    cases h3:qa.contains (l.take 2)
    ·have H3:=G h3;clear h3;cases h4:Hl.contains (l.getD 0 0);all_goals
      have H4:=G h4;clear h4;go_region_with (first
       |(go_at_call 140;refine(fieldsD _ hE.drew).mono ?_;rintro e w1 ⟨rfl,rfl⟩)
       |(go_at_call 139;refine(agj l w).mono ?_;rintro e w1 ⟨rfl,rfl⟩;rw[H3.E]))
      all_goals
       go_wp2_with fail;refine(agk _ _).mono ?_;rintro e wx ⟨⟨n,rfl,hn⟩,rfl⟩;rw[HG.E,H4.E] at hn;go_wp2_with fail;go_ret2;exact⟨Zt YF YF,((aN _ _).alloc (aC _) _).drew⟩
    have H3:=G h3;clear h3;go_region_with (first
     |(go_at_call 140;refine(fieldsD _ hE.drew).mono ?_;rintro e w1 ⟨rfl,rfl⟩)
     |(go_at_call 139;refine(agj l w).mono ?_;rintro e w1 ⟨rfl,rfl⟩;rw[H3.E]))
    all_goals
     go_wp2_with fail;go_ret2;exact⟨Zt (by rw[<-HN.E,HE.E,H3.E];rfl) (by rw[<-HN.E,HE.E,H3.E];rfl),((aN _ _).alloc (aC _) _).drew⟩
   have hd:decide (1<(l.length:Int))=X:=by rw[decide_eq_false_iff_not];omega
   have hd':decide (1<l.length)=X:=fI;have H3:af (qa.contains (l.take 2)=X):=by
    show _=_;rw[o7 I];match l,h0,aO with
    | [c],_,_=>simp[qa]
    |c::d::r,_,h=>exact absurd (show 1<(c::d::r).length by simp) h
   cases h4:Hl.contains (l.getD 0 0);all_goals
    have H4:=G h4;clear h4;go_quiet(fail);go_wp2_with fail;refine(agk _ _).mono ?_;rintro e wx ⟨⟨n,rfl,hn⟩,rfl⟩;rw[HG.E,H4.E] at hn;go_wp2_with fail;go_ret2;exact⟨Zt YF YF,below_drewN (aN _ _) _⟩
  rw[h2] at q2;rw[h1] at q1;have HE:af (sH=(2,lW jo l)):=by show _=_;rw[<-HN.E,ab7 h0,h1,h2];rfl
  clear h1 h2;go_enter func72,ntmps72;go_wp2_with fail;refine(R6 _ _).mono ?_;rintro e wx ⟨rfl,rfl⟩;rw[q1];go_wp2_with fail;refine(Pd _ _).mono ?_;rintro e wx ⟨rfl,rfl⟩;rw[q2];go_wp2_with fail;refine(Zp _ jo ab6 (λb w=>(Pd _ w).mono abw) l _ I).mono ?_;exact agl
 rw[h1] at q1;have HE:af (sH=(1,lW wC l)):=by show _=_;rw[<-HN.E,ab7 h0,h1];rfl
 clear h1;go_enter func72,ntmps72;go_wp2_with fail;refine(R6 _ _).mono ?_;rintro e wx ⟨rfl,rfl⟩;rw[q1];go_wp2_with fail;refine(Zp _ wC aoG (λb w=>(aoF _ w).mono (by rintro e wx ⟨rfl,rfl⟩;exact⟨by rw[aoA],rfl⟩)) l _ I).mono ?_;exact agl
def vB(k:Int)(t:List UInt8):Bool:=(k==2)&&CG t
def vN(k:Int)(t:List UInt8):Int:=if vB k t then p9 t else 0
theorem aoQ(l:List UInt8)(k:Nat):p9 (l.take k)<=p9 l:=by
 have key:∀(r:List UInt8) (acc:Nat),acc<=r.foldl (λn b=>n*10+(b.toNat-48)) acc:=by
  intro r;induction r with
  |nil=>intro acc;simp
  |cons b r ih=>intro acc;simp only[M8];have:=ih (acc*10+(b.toNat-48));omega
 have e:p9 l=(l.drop k).foldl (λn b=>n*10+(b.toNat-48)) (p9 (l.take k)):=by unfold p9;rw[<-List.foldl_append,List.take_append_drop]
 rw[e];exact key _ _
theorem aoR{l:List UInt8}(h:k<l.length)(hd:jo (l.getD k 0)=Z):((p9 (l.take (k+1)):Nat):Int)=10*(p9 (l.take k):Nat)+(((l.getD k 0).toNat:Int)-48):=by rw[sD h,afL];have e:l[k]=l.getD k 0:=U3;rw[e];have:=Za.1 hd;omega
theorem aoS{l:List UInt8}(h:isNum l=X):CG l=X:=by unfold CG;rw[h];rfl
theorem aoT{l:List UInt8}(h:1000000000000<p9 (l.take k)):CG l=X:=by unfold CG;have:=aoQ l k;rw[decide_eq_false I,Bool.and_false]
theorem aoU{l:List UInt8}(h:isNum l=Z)(h':p9 l<=1000000000000):CG l=Z:=by unfold CG;rw[h,decide_eq_true h'];rfl
theorem Zu{a b:Int}{c d:Bool}(h:a=b)(h':c=d):aI (bz #[a,c])=aI (bz #[b,d]):=by rw[h,h']
theorem Zv{k:Int}{t:List UInt8}(h:vB k t=X):vN k t=0/\vB k t=X:=⟨by unfold vN;rw[h];rfl,h⟩
theorem agm{t:List UInt8}:isNum t=Z↔t.all jo=Z/\t.isEmpty=X:=by simp[isNum]
theorem agn(h:R:=by go_enter func73,ntmps73;go_wp2_with fail;go_quiet(fail);go_wp2_with fail;go_ret2;exact⟨Zu F.E.1.symm F.E.2.symm,below_drewN HB.E _⟩):R:=h
theorem agp(k:Int)(t:List UInt8)(fr:Int)(w:Y)(ht:t.length<=9000):
  aF aa 73 #[aD #[C D k,au ⟨t.toArray⟩,C D fr]] w λe w'=>e=aI (bz #[C D (vN k t),ax (vB k t)])/\aj w.heap.size w w':=by
 have hB:=(aN w.heap.size w).alloc (aC _) (ag #[C D k,au ⟨t.toArray⟩,C D fr] 187);have HB:=G hB;clear hB;cases hk:(k==2)
 ·have F:=G (Zv (k:=k) (t:=t) (by unfold vB;rw[hk];rfl));have hk':(k !=2)=Z:=by rw[bne,hk];rfl
  clear hk;exact agn
 have hk':(k !=2)=X:=by rw[bne,hk];rfl
 cases he:t.isEmpty
 ·cases hn:t.all jo
  ·have F:=G (Zv (k:=k) (t:=t) (by unfold vB;rw[hk,aoS (by unfold isNum;rw[hn];rfl)];rfl));have hr:lW jo t<t.length:=by
    have h1:=Zc jo t;have h2:¬lW jo t=t.length:=by rw[Vg,hn];simp
    omega
   have hd:decide (lW jo t<t.length)=Z:=by rw[decide_eq_true_eq];exact hr
   have he':(t== [])=X:=by cases t<;>simp_all
   clear hk hn hr;go_enter func73,ntmps73;go_wp2_with fail;go_quiet((go_at_call 136;exact Ph ((Zp _ jo ab6 (λb w=>(Pd _ w).mono abw) t _ I).mono MJ)));go_wp2_with fail;go_ret2;exact⟨Zu F.E.1.symm F.E.2.symm,below_drewN HB.E _⟩
  have hr:lW jo t=t.length:=Vg.2 hn;have hd:decide (lW jo t<t.length)=X:=fI;have DR:t.length<=lW jo t:=I;have he':(t== [])=X:=by cases t<;>simp_all
  have HN:=G (agm.2 ⟨hn,he⟩);have HK:=G hk;clear hk hn hr;go_enter func73,ntmps73;go_wp2_with fail;go_quiet((go_at_call 136;exact Ph ((Zp _ jo ab6 (λb w=>(Pd _ w).mono abw) t _ I).mono MJ)));have R7:=below_drewN HB.E nq;have cT:((w.alloc (ag #[C D k,au ⟨t.toArray⟩,C D fr] 187)).drewN nq).cell? ⟨w.heap.size,1,J⟩=N (au ⟨t.toArray⟩):=((ai.new w _ _).drewN nq).cell 1;generalize(w.alloc (ag #[C D k,au ⟨t.toArray⟩,C D fr] 187)).drewN nq=W at*;have uI:=G R7;have hBi:∀p,aj w.heap.size w (W.iter ⟨t.toArray⟩ p):=λp=>uI.E.alloc uI.E.size _;have Ng:=G hBi;clear R7 hBi HB uI;go_wp2_with fail;go_loopw [4] (λn w'=>∃pos:Nat,w'=W.iter ⟨t.toArray⟩ pos/\pos<=t.length/\n=C D ((p9 (t.take pos):Nat):Int)/\p9 (t.take pos)<=1000000000000) (λ_ w'=>t.length-w'.iterPos W.heap.size);case atStart=>exact⟨0,rfl,I,rfl,by simp[p9]⟩
  obtain⟨pos,rfl,fO,rfl,hm⟩:=hrel;by_cases aO:pos<t.length
  ·obtain⟨r,wd,vo,hr⟩:=agi W t pos aO;have hdig:jo (t.getD pos 0)=Z:=by have:=xD.1 (agm.1 HN.E).1 (t.getD pos 0) (by simp[dO,aO]);exact this
   have fP:=aoR aO hdig;have kr:=Za.1 hdig;obtain⟨e1,r1,r2,e2⟩:r=(t.getD pos 0).toNat/\48<=r/\r<=57/\wd=1:=by
    rcases hr with h|h;·exact⟨h.1,I,I,h.2.2⟩
    have:=h.2.2.2 0 I;rw[mZ] at this;omega
   rw[<-e1] at fP;clear hr kr e1 hdig;subst e2;generalize hM:p9 (t.take pos)=m at*;have gP:=G fP;clear fP hM;by_cases jG:1000000000000<10*(m:Int)+(r-48);·have F:=G (Zv (k:=k) (t:=t) (by unfold vB;rw[aoT (l:=t) (k:=pos+1) (by have:=gP.E;omega),Bool.and_false]));go_wp2_with fail;go_ret2;exact⟨Zu F.E.1.symm F.E.2.symm,Ng.E _⟩
   go_wp2_with fail;go_roundw;case rel=>exact⟨pos+1,rfl,I,by rw[gP.E],by have:=gP.E;omega⟩
   simp;omega
  have vo:∀ty,(Instr.next (aQ (N ⟨W.heap.size,0,J⟩)) Z ty).run aa (W.iter ⟨t.toArray⟩ pos)=_:=λty=>run_next_end W ⟨t.toArray⟩ pos ty YY;have F:af (((p9 (t.take pos):Nat):Int)=vN k t/\Z=vB k t):=by
   show _/\_;have e:t.take pos=t:=o7 I;rw[e] at hm |-;have:vB k t=Z:=by unfold vB;rw[HK.E,aoU HN.E hm];rfl
   unfold vN;rw[this];exact⟨rfl,rfl⟩
  generalize p9 (t.take pos)=m at*;go_wp2_with fail;go_ret2;exact⟨Zu F.E.1 F.E.2,Ng.E _⟩
 obtain rfl:t= []:=by simpa using he
 have F:=G (Zv (k:=k) (t:= []) (by unfold vB;rw[hk];rfl));clear hk he;exact agn
def Hr(t:Tok):List ak:= [C D t.kind,au ⟨t.text.toArray⟩,C D t.from_]
def yw(ts:List Tok):List ak:=ts.flatMap Hr
theorem ab8(ts:List Tok)(t:Tok):yw (ts++ [t])=yw ts++Hr t:=by simp[yw]
theorem agq(ts:List Tok):(yw ts).length=ts.length*3:=by
 induction ts with
 |nil=>rfl
 |cons t r ih=>simp only[yw,Hq,eB,iP] at ih |-;rw[ih];simp[Hr];omega
theorem ab9(t:Tok):∀u∈Hr t,u.oneCell'=Z:=by intro u hu;simp only[Hr,jZ,nJ,or_false] at hu;rcases hu with rfl|rfl|rfl<;>rfl
theorem aoV:(aa.info? 187).map (λi=>(i.zero,i.size,i.bytes))=N (N (aD #[C D 0,au ⟨#[]⟩,C D 0]),3,32):=by kernel_rfl
theorem agr(l:List UInt8)(a:Nat):(⟨l.toArray⟩:ByteArray).extract a l.length=⟨(l.drop a).toArray⟩:=by rw[abP,Nb]
theorem aoW(l:List UInt8)(a n:Nat):(⟨l.toArray⟩:ByteArray).extract a (a+n)=⟨((l.drop a).take n).toArray⟩:=by rw[abP,List.drop_take,show a+n-a=n from by omega]
theorem aoX{L:List UInt8}{acc:List Tok}{f a:Nat}(h:glue acc (iK (f+1) (L.drop a) a)=cK)(ha:a<=L.length)(he:a+dG X (L.drop a)=L.length):cK= .ok acc:=by rw[<-h,anX KJ];simp[glue]
theorem aoY{L:List UInt8}{acc:List Tok}{f a:Nat}(h:glue acc (iK (f+1) (L.drop a) a)=cK)(hs:dG X (L.drop a)=k)(hk:a+k<L.length)(hn:(dB (L.drop (a+k))).1=0):cK= .error ((a+k:Nat),3):=by rw[<-h,anY hs KJ abE];rfl
theorem ags{L:List UInt8}{acc:List Tok}{f a:Nat}(h:glue acc (iK (f+1) (L.drop a) a)=cK)(hs:dG X (L.drop a)=k)(hk:a+k<L.length)(hn:dB (L.drop (a+k))=(kd,n))(h0:kd≠0)
  (hb:Br kd ((L.drop (a+k)).take n)=Z):cK= .error ((a+k:Nat),6):=by rw[<-h,anZ hs KJ abE h0 (by rw[YV];exact hb)];rfl
theorem aca{L:List UInt8}{acc:List Tok}{f a:Nat}(h:glue acc (iK (f+1) (L.drop a) a)=cK)(hs:dG X (L.drop a)=k)(hk:a+k<L.length)(hn:dB (L.drop (a+k))=(kd,n))(h0:kd≠0)
  (hb:Br kd ((L.drop (a+k)).take n)=X):glue (acc++ [⟨kd,(L.drop (a+k)).take n,(a+k:Nat)⟩]) (iK f (L.drop (a+k+n)) (a+k+n))=cK:=by rw[<-h,afS hs KJ abE h0 (by rw[YV];exact hb),anV,YV,YV]
theorem agt(L:List UInt8)(w:Y)(hE:Env w)(hL:L.length<=9000):
  aF aa 27 #[L] w λe w'=>∃v,e=aI (bz #[v,C D (Vf (qA L)),C D (Na (qA L))])/\w'.ownsRow w 187 3 v (RP (qA L)).length (yw (RP (qA L)))/\aj w w w':=by
 obtain⟨i0,gz,fu,gq,fG⟩:=info_parts aoV;generalize hR:qA L=cK;have HR:=G hR;clear hR;by_cases jG:8000<L.length
 ·have F:af (cK= .error (8000,6)):=by
   show _=_
   rw[<-HR.E];unfold qA;rw[if_pos jG]
  have hd:decide (8000<(L.length:Int))=Z:=jO
  go_enter func27,ntmps27
  go_wp2_with fail
  rw[F.E]
  go_ret3
  exact⟨_,rfl,ng _ _ _ _,aN _ _⟩
 have hd:decide (8000<(L.length:Int))=X:=by rw[decide_eq_false_iff_not];omega
 have hbig':L.length<=8000:=I;have hS:af (glue [] (iK (L.length+1) (L.drop 0) 0)=cK):=by show _=_;rw[<-HR.E];unfold qA;rw[if_neg jG,anU,Vn]
 clear jG;go_enter func27,ntmps27;go_wp2_with fail;go_loopw [2,3] (λv i wr=>∃(a:Nat) (acc:List Tok) (f:Nat),a<=L.length/\i=C D a/\acc.length<=a/\L.length<a+f/\glue acc (iK f (L.drop a) a)=cK/\wr.ownsRow w 187 3 v acc.length (yw acc)/\aj w w wr) (λ_ i _=>L.length-(intOf i).toNat);case atStart=>exact⟨0,[],L.length+1,I,rfl,aG,I,hS,ng _ _ _ _,aN _ _⟩
 obtain⟨a,acc,f,ha,rfl,hacc,hf,hg,aV,aH⟩:=hrel;obtain⟨wo,rfl⟩:=dz wr;obtain⟨f,rfl⟩:∃g,f=g+1:=⟨f-1,I⟩;have HG:=G hg;have HO:=G aV;clear hg aV hS HR;go_wp2_with fail;rw[agr];have hk:=afQ (L.drop a) X;rw[MM] at hk;refine(aoK (L.drop a) _ KJ).mono ?_;rintro e w1 ⟨rfl,aB⟩;generalize hks:dG X (L.drop a)=k at*;have HK:=G hks;clear hks;have Ag:=aU aH aB;have ni:=G (own_below HO aB);by_cases hend:a+k=L.length
 ·have hend':((a:Int)+k==L.length)=Z:=by rw[beq_iff_eq];omega
  have F:=G (aoX HG ha (by rw[HK.E];exact hend));clear hend;go_wp2_with fail;rw[F.E];go_ret3;exact⟨_,rfl,ni,Ag⟩
 have hend':((a:Int)+k==L.length)=X:=by rw[beq_eq_false_iff_ne];omega
 go_wp2_with fail;rw[agr];have h0:0<(L.drop (a+k)).length:=KJ;refine(aoP (L.drop (a+k)) _ (hE.after Ag) h0 KJ).mono ?_;rintro e w2 ⟨rfl,aJ⟩;have yx:=Zd (l:=L.drop (a+k));have Nh:= @RQ (L.drop (a+k));obtain⟨kd,n,hnn⟩:∃kd n,dB (L.drop (a+k))=(kd,n):=⟨_,_,rfl⟩;rw[hnn] at yx Nh |-;rw[MM] at yx;simp only at yx Nh |-;have Pj:=G hnn;clear hnn h0;have vv:=aU Ag aJ;have iW:=G (own_below ni aJ);cases h0:(kd==0)
 ·have lD:kd≠0:=by simpa using h0
  have wG:=Nh lD;have kV:=anW (L.drop (a+k));rw[Pj.E] at kV;simp only at kV;have zm:=G kV;clear Nh kV;go_wp2_with fail;rw[aoW];have uJ:((L.drop (a+k)).take n).length=n:=by rw[xq,MM];omega
  generalize Pm:(L.drop (a+k)).take n=t at*;have HT:=G Pm;have vZ:=G uJ;have aoZ:t.length<=9000:=I;clear Pm uJ;refine(agp kd t ((a:Int)+k) _ aoZ).mono ?_;rintro e w3 ⟨rfl,aR⟩;have hblk:=(ai.new w2 187 #[kd,t,C D ((a:Int)+k)]).below aR aG;have c0:=hblk.cell 0;have c1:=hblk.cell 1;have c2:=hblk.cell 2;simp only[iH,iI,iX] at c0 c1 c2;have bC:=G (aU (vv.alloc vv.size (ag #[kd,t,C D ((a:Int)+k)] 187)) aR);have nk:=G (own_below (iW.alloc (ag #[kd,t,C D ((a:Int)+k)] 187)) aR);clear hblk aR vv aJ iW ni Ag aB aH HO;rcases zm with rfl|rfl|rfl|rfl;·exact absurd rfl lD
  ·clear h0 lD;rw[show vB 1 t=X from rfl];by_cases h16:16<n
   ·have ao0:decide (16<(n:Int))=Z:=by rw[decide_eq_true_eq];omega
    have F:=G (ags HG HK I Pj aL (by rw[HT.E];unfold Br;rw[vZ.E,decide_eq_true h16];rfl));go_wp2_with fail;rw[F.E];go_ret3;exact⟨_,rfl,ng _ _ _ _,bC⟩
   have ao0:decide (16<(n:Int))=X:=by rw[decide_eq_false_iff_not];omega
   have F:=G (aca HG HK I Pj aL (by rw[HT.E];unfold Br;rw[vZ.E,decide_eq_false h16];rfl));rw[HT.E] at F;go_wp2_with(at_builtin;refine pX _ rfl (.tmp 63) (.tmp 65) _ rfl w.heap.size 187 i0 _ 3 32 underlying106 gz fu gq fG rfl I _ acc.length (yw acc) rfl (nk.alloc _) (w3.heap.size+1) (N ⟨w3,0,J⟩) 1 1 (Hr ⟨1,t,(a:Int)+k⟩) rfl (mX w3 #[C D 1,t,C D ((a:Int)+k)] 187 3 rfl) (ab9 _) lH I Rl ?_;intro v4 w4 Ni yz Zw);have Vr:w4.ownsRow w 187 3 v4 (acc++ [(⟨1,t,((a+k:Nat):Int)⟩:Tok)]).length (yw (acc++ [(⟨1,t,((a+k:Nat):Int)⟩:Tok)])):=by rw[ab8,eB];exact Ni
   refine⟨⟨a+k+n,acc++ [(⟨1,t,((a+k:Nat):Int)⟩:Tok)],f,I,bR,G5,I,F,Vr,(bC.alloc bC.size _).grown yz Rl (lJ nk)⟩,bW⟩
  ·clear h0 lD;cases hv:CG t;·rw[show vB 2 t=X from hv];have F:=G (ags HG HK I Pj aL (by rw[HT.E];unfold Br;rw[hv];rfl));clear hv;go_wp2_with fail;rw[F.E];go_ret3;exact⟨_,rfl,ng _ _ _ _,bC⟩
   rw[show vB 2 t=Z from hv];have F:=G (aca HG HK I Pj aL (by rw[HT.E];unfold Br;rw[hv];rfl));rw[HT.E] at F;clear hv;go_wp2_with(at_builtin;refine pX _ rfl (.tmp 63) (.tmp 65) _ rfl w.heap.size 187 i0 _ 3 32 underlying106 gz fu gq fG rfl I _ acc.length (yw acc) rfl (nk.alloc _) (w3.heap.size+1) (N ⟨w3,0,J⟩) 1 1 (Hr ⟨2,t,(a:Int)+k⟩) rfl (mX w3 #[C D 2,t,C D ((a:Int)+k)] 187 3 rfl) (ab9 _) lH I Rl ?_;intro v4 w4 Ni yz Zw);have Vr:w4.ownsRow w 187 3 v4 (acc++ [(⟨2,t,((a+k:Nat):Int)⟩:Tok)]).length (yw (acc++ [(⟨2,t,((a+k:Nat):Int)⟩:Tok)])):=by rw[ab8,eB];exact Ni
   refine⟨⟨a+k+n,acc++ [(⟨2,t,((a+k:Nat):Int)⟩:Tok)],f,I,bR,G5,I,F,Vr,(bC.alloc bC.size _).grown yz Rl (lJ nk)⟩,bW⟩
  clear h0 lD;rw[show vB 3 t=X from rfl];have F:=G (aca HG HK I Pj aL (by rw[HT.E];rfl));rw[HT.E] at F;go_wp2_with(at_builtin;refine pX _ rfl (.tmp 63) (.tmp 65) _ rfl w.heap.size 187 i0 _ 3 32 underlying106 gz fu gq fG rfl I _ acc.length (yw acc) rfl (nk.alloc _) (w3.heap.size+1) (N ⟨w3,0,J⟩) 1 1 (Hr ⟨3,t,(a:Int)+k⟩) rfl (mX w3 #[C D 3,t,C D ((a:Int)+k)] 187 3 rfl) (ab9 _) lH I Rl ?_;intro v4 w4 Ni yz Zw);have Vr:w4.ownsRow w 187 3 v4 (acc++ [(⟨3,t,((a+k:Nat):Int)⟩:Tok)]).length (yw (acc++ [(⟨3,t,((a+k:Nat):Int)⟩:Tok)])):=by rw[ab8,eB];exact Ni
  refine⟨⟨a+k+n,acc++ [(⟨3,t,((a+k:Nat):Int)⟩:Tok)],f,I,bR,G5,I,F,Vr,(bC.alloc bC.size _).grown yz Rl (lJ nk)⟩,bW⟩
 have lD:kd=0:=by simpa using h0
 have F:=G (aoY HG HK I (by rw[Pj.E];exact lD));clear Nh lD;go_wp2_with fail;rw[F.E];go_ret3;exact⟨_,rfl,ng _ _ _ _,vv⟩
theorem ao1{s:List UInt8}(h:Pg KS s=Z):s= [114,117,108,101]\/s= [101,97,99,104]\/s= [101,110,116,105,116,121]\/s= [112,97,105,114]\/s= [108,101,116]\/s= [114,101,113,117,105,114,101]\/s= [112,111,115,116]\/s= [116,111]\/s= [112,101,114]\/s= [97,110,100]\/s= [111,114]\/s= [110,111,116]\/s= [109,105,110]\/s= [109,97,120]\/s= [97,98,115]\/s= [98,97,108,97,110,99,101]\/s= [112,97,114,116,110,101,114]\/s= [115,104,97,114,101]:=by unfold Pg KS at h;rw[Vq] at h;simpa[uG,tF,sF,qb,qB,qC,qD,kU,mM,Vh,Vi,uH,oQ,mY,qc,qE,oU,nL] using h
theorem agu(s:List UInt8)(w:Y):aF aa 148 #[s] w λe w'=>e=aI (Pg KS s)/\w=w':=by
 cases h:Pg KS s
 ·have aY:∀x∈KS,(s==x)=X:=by
   intro x hx
   rw[beq_eq_false_iff_ne]
   rintro rfl
   unfold Pg at h
   rw[Vq.2 hx] at h
   cases h
  have e0:=aY [114,117,108,101] aL
  have e1:=aY [101,97,99,104] aL
  have e2:=aY [101,110,116,105,116,121] aL
  have e3:=aY [112,97,105,114] aL
  have e4:=aY [108,101,116] aL
  have e5:=aY [114,101,113,117,105,114,101] aL
  have e6:=aY [112,111,115,116] aL
  have e7:=aY [116,111] aL
  have e8:=aY [112,101,114] aL
  have e9:=aY [97,110,100] aL
  have CL:=aY [111,114] aL
  have Ht:=aY [110,111,116] aL
  have e12:=aY [109,105,110] aL
  have e13:=aY [109,97,120] aL
  have e14:=aY [97,98,115] aL
  have e15:=aY [98,97,108,97,110,99,101] aL
  have e16:=aY [112,97,114,116,110,101,114] aL
  have e17:=aY [115,104,97,114,101] aL
  clear aY h
  go_enter func148,ntmps148
  go_wp2_with fail
  go_ret
  exact⟨rfl,rfl⟩
 rcases ao1 h with rfl|rfl|rfl|rfl|rfl|rfl|rfl|rfl|rfl|rfl|rfl|rfl|rfl|rfl|rfl|rfl|rfl|rfl;all_goals
  clear h;go_enter func148,ntmps148;go_wp2_with fail;go_ret;exact⟨rfl,rfl⟩
abbrev But(g:Nat)(w w':Y):Prop:=w.grownBy w' (N g)
section
variable{g:Nat}{a b c w w':Y}
theorem But.refl(g:Nat)(w:Y):But g w w:=⟨rfl,rfl,rfl,aC _,λ_ _ _=>rfl⟩
theorem But.tr(h:But g a b)(k:But g b c):But g a c:=⟨k.os.trans h.os,k.tape.trans h.tape,k.output.trans h.output,ja h.size k.size,λi hi hn=>(k.block i (yA hi h.size) hn).trans (h.block i hi hn)⟩
theorem But.of(h:aj a a b):But g a b:=Vb h _
theorem But.nM(h:But g a b)(k:aj b b c):But g a c:=h.tr (But.of k)
theorem But.low(h:But g a b)(hB:B<=g)(hs:B<=a.heap.size):aj B a b:=⟨h.os,h.tape,h.output,h.size,λk hk=>h.block k I yj⟩
theorem But.set(h:But g a b){p:aK}(hp:p.block=g)(v:ak):But g a (b.setCell p v):=h.tr ⟨rfl,rfl,rfl,aG,λk hk hn=>jm b p v k (by rintro rfl;exact hn (by rw[hp]))⟩
theorem But.qG(h:But g a b){p:aK}(hp:a.heap.size<=p.block)(v:ak):But g a (b.setCell p v):=⟨h.os,h.tape,h.output,by simpa using h.size,λk hk hn=>(jm b p v k (by rintro rfl;omega)).trans (h.block k hk hn)⟩
theorem But.alloc(h:But g a b)(o:Obj):But g a (b.alloc o):=h.nM ((aN _ _).alloc (aC _) o)
theorem But.cell(h:But g a b){p:aK}(hp:p.block<a.heap.size)(hn:p.block≠g):b.cell? p=a.cell? p:=He (h.block _ hp abC)
theorem ai.but{t:bM}{cs:Array ak}(h:ai a k t cs)(hb:But g a b)(hn:k≠g):ai b k t cs:=h.grown hb abC
theorem Pn{base:Nat}{e:bM}{size:Nat}{xs:List ak}(h:a.ownsRow base e size v n xs)(hb:But g a b)(hg:g<base):b.ownsRow base e size v n xs:=
 h.kept hb (by
  have:=lJ h;cases q:v.ownBlock with
  |none=>exact .inl rfl
  |some k=>exact .inr (by have:=this k q;intro e;injection e;omega))
end
theorem qH{a:Y}(h:aj B a w):aj B a w.drew:=⟨h.os,h.tape,h.output,h.size,h.block⟩
def gJ(h:lL)(v:ak):ak:=aD #[h.kind,h.value,h.from_,h.az,h.name,v]
def FK(h:lL)(v:ak):List ak:= [C D h.kind,C D h.value,C D h.from_,C D h.az,au ⟨h.name.toArray⟩,v]
def eU(w:Y)(S:Nat->Prop):Ex->ak->Prop
 | .lf _,v=>v=O J 0 0
 | .un _ x,v=>∃g va,v=O (N ⟨g,0,J⟩) 1 1/\S g/\ai w g 128 (FK x.hd va).toArray/\eU w S x va
 | .bi _ x y,v=>∃g va vb,v=O (N ⟨g,0,J⟩) 2 2/\S g/\ai w g 128 (FK x.hd va++FK y.hd vb).toArray/\eU w S x va/\eU w S y vb
theorem eU.keep{S S':Nat->Prop}(hk:∀k,S k->w'.heap[k]?=w.heap[k]?)(hS:∀k,S k->S' k):∀ {x:Ex} {v:ak},eU w S x v->eU w' S' x v:=by
 intro x;induction x with
 |lf h=>intro v hv;exact hv
 |un h x ih=>rintro v ⟨g,va,e,h1,h3,h4⟩;exact⟨g,va,e,hS g h1,(hk g h1).trans h3,ih h4⟩
 |bi h x y ihx ihy=>rintro v ⟨g,va,vb,e,h1,h3,h4,h5⟩;exact⟨g,va,vb,e,hS g h1,(hk g h1).trans h3,ihx h4,ihy h5⟩
theorem eU.form{S:Nat->Prop}(h:eU w S x v):∃A n c,v=O A n c/\n<=c/\n=x.ar:=by
 cases x with
 |lf h0=>exact⟨J,0,0,h,I,rfl⟩
 |un h0 x=>obtain⟨g,va,e,_⟩:=h;exact⟨_,1,1,e,I,rfl⟩
 |bi h0 x y=>obtain⟨g,va,vb,e,_⟩:=h;exact⟨_,2,2,e,I,rfl⟩
theorem acb{j:Nat}(h:k<ts.length)(hj:j<3):(yw ts)[k*3+j]?=(Hr (ts.getD k ⟨0,[],0⟩))[j]?:=by
 induction ts generalizing k with
 |nil=>simp at h
 |cons t r ih=>
  have e:yw (t::r)=Hr t++yw r:=rfl;have el:(Hr t).length=3:=rfl;cases k with
  |zero=>rw[e,List.getElem?_append_left I];simp
  |succ k=>rw[e,List.getElem?_append_right I,el,show(k+1)*3+j-3=k*3+j by omega,ih CB];simp
theorem add_pos(a:aK)(n:Nat)(h:n≠0):a.add n=⟨a.block,a.off+n,J⟩:=by unfold Addr.add;rw[if_neg h]
theorem Reads.Po{A:Option aK}(h:Reads w B 3 A n (yw ts))(hk:k<n):
  ∃ad,A=N ad/\ad.block<B/\w.cell? (ad.add (k*3))=N (C D (ts.getD k ⟨0,[],0⟩).kind)/\w.cell? ⟨(ad.add (k*3)).block,(ad.add (k*3)).off+1,J⟩=N (au ⟨(ts.getD k ⟨0,[],0⟩).text.toArray⟩)/\
   w.cell? ⟨(ad.add (k*3)).block,(ad.add (k*3)).off+2,J⟩=N (C D (ts.getD k ⟨0,[],0⟩).from_):=by
 obtain⟨ad,rfl,hb,hc⟩:=h.2 I;have hl:ts.length=n:=by have:=h.1;rw[agq] at this;omega
 have h0:=acb (ts:=ts) (k:=k) (j:=0) I I;have h1:=acb (ts:=ts) (k:=k) (j:=1) I I;have h2:=acb (ts:=ts) (k:=k) (j:=2) I I;have g1:=hc _ _ h1;have g2:=hc _ _ h2;rw[<-mW,add_pos _ 1 I] at g1;rw[<-mW,add_pos _ 2 I] at g2;exact⟨ad,rfl,hb,hc _ _ h0,g1,g2⟩
def aZ(ts:List Tok):List Tk:=ts.map λt=>(t.kind,t.text)
def pk(ts:List Tok)(k:Nat)(bad:Bool):List UInt8:=if bad then[] else bN ((aZ ts).drop k)
theorem Pp(h:k<ts.length):(aZ ts).drop k=((ts.getD k ⟨0,[],0⟩).kind,(ts.getD k ⟨0,[],0⟩).text)::(aZ ts).drop (k+1):=by have e:ts.getD k ⟨0,[],0⟩=ts[k]:=U3;unfold aZ;rw[DY CB,List.getElem_map,e]
theorem acd(ts:List Tok)(k:Nat):pk ts k Z= []:=rfl
theorem JE(h:ts.length<=k)(bad:Bool):pk ts k bad= []:=by unfold pk;rw[show(aZ ts).drop k= [] from JC.2 (by simpa[aZ] using h)];cases bad<;>rfl
theorem Nj(h:k<ts.length):pk ts k X=(ts.getD k ⟨0,[],0⟩).text:=by unfold pk;rw[Pp h];rfl
structure Ps(w:Y)(g B:Nat)(Al:Option aK)(nl cl:Nat)(ts:List Tok)(e:Int)(k:Nat)(bad:Bool):Prop where
 blk:ai w g 111 #[O Al nl cl,e,k,bad]
 rd:Reads w B 3 Al nl (yw ts)
 hB:B<=g
 hk:k<=nl
 hn:nl<=9000
 hc:nl<=cl
 ok:∀t∈ts,t.text≠ []/\t.text.length<=9000
section
variable{w w':Y}{g B:Nat}{Al:Option aK}{nl cl:Nat}{ts:List Tok}{e:Int}{k:Nat}{bad:Bool}
theorem Ps.len(h:Ps w g B Al nl cl ts e k bad):ts.length=nl:=by have:=h.rd.1;rw[agq] at this;omega
theorem Ps.lt(h:Ps w g B Al nl cl ts e k bad):g<w.heap.size:=h.blk.lt
theorem Ps.go(h:Ps w g B Al nl cl ts e k bad)(hb:aj w w w'):Ps w' g B Al nl cl ts e k bad:=⟨h.blk.below hb h.lt,h.rd.keep λp hp=>hb.cell (by have:=h.lt;have:=h.hB;omega),h.hB,h.hk,h.hn,h.hc,h.ok⟩
theorem Ps.but(h:Ps w g B Al nl cl ts e k bad)(hb:But g w w')(hk:k'<=nl)(hx:ai w' g 111 #[O Al nl cl,e,k',CO]):Ps w' g B Al nl cl ts e k' CO:=⟨hx,h.rd.keep λp hp=>hb.cell (by have:=h.lt;have:=h.hB;omega) (by have:=h.hB;omega),h.hB,hk,h.hn,h.hc,h.ok⟩
theorem Ps.cells(h:Ps w g B Al nl cl ts e k bad):w.cell? ⟨g,0,J⟩=N (O Al nl cl)/\w.cell? ⟨g,1,J⟩=N (C D e)/\w.cell? ⟨g,2,J⟩=N (C D k)/\w.cell? ⟨g,3,J⟩=N (ax bad):=⟨h.blk.cell 0,h.blk.cell 1,h.blk.cell 2,h.blk.cell 3⟩
end
section
variable{w:Y}{g B:Nat}{Al:Option aK}{nl cl:Nat}{ts:List Tok}{e:Int}{k:Nat}{bad:Bool}
theorem agv(h:Ps w g B Al nl cl ts e k bad):aF aa 145 #[aQ g] w λe' w'=>e'=aI (au ⟨(pk ts k bad).toArray⟩)/\∃m,w'=w.drewN m:=by
 obtain⟨c0,_,c2,c3⟩:=h.cells;have hl:=h.len;have HR:=G h.rd;cases bad;case true=>clear h;go_enter func145,ntmps145;go_wp2_with fail;go_quiet(fail);go_wp2_with fail;go_ret;exact⟨rfl,_,rfl⟩
 by_cases hk:k<nl;case neg=>have q':decide ((nl:Int)<=(k:Int))=Z:=jO;have F:=G (JE (ts:=ts) (k:=k) I X);clear h;go_enter func145,ntmps145;go_wp2_with fail;go_quiet(fail);go_wp2_with fail;go_ret;exact⟨ic,_,rfl⟩
 have q':decide ((nl:Int)<=(k:Int))=X:=fI;have q2:(k:Int)<(nl:Int):=I;have F:=G (Nj (ts:=ts) (k:=k) I);obtain⟨ad,rfl,_,d0,d1,d2⟩:=HR.Po hk;generalize ts.getD k ⟨0,[],0⟩=t at*;obtain⟨kd,tx,fr⟩:=t;simp only[] at d0 d1 d2;clear h d0 d2;go_enter func145,ntmps145;go_wp2_with fail;go_quiet(fail);go_wp2_with fail;go_quiet(fail);go_wp2_with fail;go_ret;exact⟨ic,_,by rw[World.drewN_drewN]⟩
theorem Hu(h:Ps w g B Al nl cl ts e k bad):aF aa 145 #[aQ g] w λe' w'=>e'=aI (au ⟨(pk ts k bad).toArray⟩)/\aj w w w':=(agv h).mono (by rintro e' w' ⟨rfl,m,rfl⟩;exact⟨rfl,below_drewN (aN _ _) _⟩)
theorem Ps.drewN(h:Ps w g B Al nl cl ts e k bad)(n:Nat):Ps (w.drewN n) g B Al nl cl ts e k bad:=h.go (below_drewN (aN _ _) n)
theorem Ps.ao2(h:Ps w g B Al nl cl ts e k bad)(hq:q<nl):(ts.getD q ⟨0,[],0⟩).text≠ []/\(ts.getD q ⟨0,[],0⟩).text.length<=9000:=by
 have hl:=h.len;have:ts.getD q ⟨0,[],0⟩=ts[q]'I:=by simp[dO,show q<ts.length by omega]
 rw[this];exact h.ok _ (rF _)
theorem Ps.ao3(h:Ps w g B Al nl cl ts e k bad):Ps (w.setCell ⟨g,3,J⟩ (ax Z)) g B Al nl cl ts e k Z/\But g w (w.setCell ⟨g,3,J⟩ (ax Z)):=by have hb:But g w (w.setCell ⟨g,3,J⟩ (ax Z)):=(But.refl g w).set rfl _;exact⟨h.but hb h.hk (h.blk.bL 3 (ax Z)),hb⟩
theorem Ps.JF(h:Ps w g B Al nl cl ts e k bad)(hk:k<nl):Ps (w.setCell ⟨g,2,J⟩ (C D ((k:Int)+1))) g B Al nl cl ts e (k+1) bad/\But g w (w.setCell ⟨g,2,J⟩ (C D ((k:Int)+1))):=by
 have hb:But g w (w.setCell ⟨g,2,J⟩ (C D ((k:Int)+1))):=(But.refl g w).set rfl _;have e1:(C D ((k:Int)+1):ak)=C D ((k+1:Nat):Int):=by rw[Int.natCast_add];rfl
 refine⟨h.but hb I ?_,hb⟩;rw[e1];exact h.blk.bL 2 (C D ((k+1:Nat):Int))
theorem Pq(h:Ps w g B Al nl cl ts e k bad):aF aa 203 #[aQ g] w λe' w'=>e'=aI (bz #[])/\Ps w' g B Al nl cl ts e k Z/\But g w w':=by obtain⟨_,_,_,c3⟩:=h.cells;have hf:=h.blk.frozen;have HP:=G h;clear h;go_enter func203,ntmps203;go_wp2_with fail;go_end0;exact⟨rfl,HP.ao3⟩
theorem Nk(h:Ps w g B Al nl cl ts e k bad)(s:List UInt8)(hs:s≠ []):aF aa 144 #[aQ g,s] w λe' w'=>e'=aI (pk ts k bad==s)/\Ps w' g B Al nl cl ts e (if pk ts k bad==s then k+1 else k) bad/\But g w w':=by
 have HP:=G h;have kF:=G (Hu h);have ig:af ((pk ts k bad==s)=Z->k<nl):=λhq=>by
  rcases jl k nl with h1|h1;·exact h1
  rw[JE (by have:=h.len;omega),beq_iff_eq] at hq;exact absurd hq.symm hs
 have hn:=h.hn;clear h hs;generalize pk ts k bad=p at*;cases hb:(p==s);case false=>
  have hb':(p !=s)=Z:=by rw[bne,hb];rfl
  go_enter func144,ntmps144;go_wp2_with fail;refine kF.mono ?_;rintro e' w1 ⟨rfl,aB⟩;go_wp2_with fail;go_ret;exact⟨rfl,HP.go aB,But.of aB⟩
 have hb':(p !=s)=X:=by rw[bne,hb];rfl
 have aO:=ig hb;go_enter func144,ntmps144;go_wp2_with fail;refine kF.mono ?_;rintro e' w1 ⟨rfl,aB⟩;have jU:=G (HP.go aB);obtain⟨_,_,c2,_⟩:=jU.cells;have hf:=jU.blk.frozen;have HB:=G (But.of (g:=g) aB);clear aB;go_wp2_with fail;go_ret;exact⟨rfl,(jU.JF aO).1,HB.tr (jU.JF aO).2⟩
end
def dP(ts:List Tok)(s:List UInt8)(q:Nat × Bool):Nat × Bool:=if q.2 then q else if pk ts q.1 X==s then(q.1+1,X) else(q.1,Z)
def nd(ts:List Tok)(ws:List (List UInt8))(q:Nat × Bool):Nat × Bool:=ws.foldl (λq s=>dP ts s q) q
theorem ao4{ws:List (List UInt8)}{q:Nat × Bool}{i:Nat}(hi:i<ws.length):nd ts (ws.take (i+1)) q=dP ts (ws.getD i []) (nd ts (ws.take i) q):=by unfold nd;rw[sD hi,List.foldl_append];have e:ws.getD i []=ws[i]:=U2;rw[e];rfl
def Pt(s:List UInt8):ak:=au ⟨s.toArray⟩
section
variable{w:Y}{g B:Nat}{Al:Option aK}{nl cl:Nat}{ts:List Tok}{e:Int}{k:Nat}{bad:Bool}
theorem agw(h:Ps w g B Al nl cl ts e k bad)(ws:List (List UInt8))(g2 c:Nat)(hw:ai w g2 9 (ws.map Pt).toArray)(hg:g2≠g)(hws:∀s∈ws,s≠ [])(hn:ws.length<=100):
  aF aa 142 #[aQ g,O g2 ws.length c] w λe' w'=>e'=aI (bz #[])/\Ps w' g B Al nl cl ts e (nd ts ws (k,bad)).1 (nd ts ws (k,bad)).2/\But g w w':=by
 have HP:=G h;have HW:=G hw;have su:=G hws;clear h hw hws;generalize hN:ws.length=sH at*;have HN:=G hN;clear hN;go_enter func142,ntmps142;go_wp2_with fail;go_loopw [8] (λiv wr=>∃i:Nat,iv=C D i/\i<=sH/\Ps wr g B Al nl cl ts e (nd ts (ws.take i) (k,bad)).1 (nd ts (ws.take i) (k,bad)).2/\But g w wr) (λiv _=>sH-(intOf iv).toNat);case atStart=>exact⟨0,rfl,I,HP,But.refl _ _⟩
 obtain⟨i,rfl,hi,og,aH⟩:=hrel;obtain⟨wo,rfl⟩:=dz wr;have yB:=G og;have bA:=G aH;by_cases aO:i<sH;case neg=>have k3:decide ((i:Int)<(sH:Int))=X:=fI;have e1:ws.take i=ws:=o7 Rw;rw[e1] at og;have ao5:=G og;clear og aH yB;go_wp2_with fail;go_end0;exact⟨rfl,ao5,bA⟩
 have b3:(i:Int)<(sH:Int):=I;have FS:=G (ao4 (ts:=ts) (ws:=ws) (q:=(k,bad)) (i:=i) Rw);have d0:=(HW.but aH hg).cell i;have e2:(ws.map Pt).toArray[i]?=N (Pt (ws.getD i [])):=by have h3:i<ws.length:=Rw;simp[dO,h3]
 rw[e2] at d0;have aY:ws.getD i []≠ []:=by
  have h3:i<ws.length:=Rw;have:ws.getD i []=ws[i]:=by simp[dO,h3]
  rw[this];exact su _ (rF _)
 generalize ws.getD i []=s at*;unfold Pt at d0;generalize nd ts (ws.take i) (k,bad)=q at*;obtain⟨k',b'⟩:=q;simp only[] at og;have yB:=G og;obtain⟨_,_,_,c3⟩:=og.cells;clear aH og;cases b';case true=>have F:af (nd ts (ws.take (i+1)) (k,bad)=(k',Z)):=FS;go_wp2_with fail;exact⟨⟨i+1,bR,I,by rw[F.E];exact yB,bA⟩,bW⟩
 have HT:=G (Nk yB s aY);have F:af (nd ts (ws.take (i+1)) (k,bad)=if pk ts k' X==s then(k'+1,X) else(k',Z)):=FS;clear FS aY;generalize hhit:(pk ts k' X==s)=iE at*;go_wp2_with fail;refine HT.mono ?_;rintro e' w1 ⟨rfl,xE,aB⟩;have jU:=G xE;have aM:=G (bA.tr aB);clear xE aB HT;cases iE;case true=>have F2:af (nd ts (ws.take (i+1)) (k,bad)=(k'+1,X)):=F;go_wp2_with fail;exact⟨⟨i+1,bR,I,by rw[F2.E];exact jU,aM⟩,bW⟩
 have F2:af (nd ts (ws.take (i+1)) (k,bad)=(k',Z)):=F;go_wp2_with fail;refine(Pq jU).mono ?_;rintro e' w2 ⟨rfl,fH,aJ⟩;have aS:=G (aM.tr aJ);have sI:=G fH;clear fH aJ;go_wp2_with fail;exact⟨⟨i+1,bR,I,by rw[F2.E];exact sI,aS⟩,bW⟩
def sJ(ts:List Tok)(k:Nat)(bad:Bool):List UInt8 × Nat × Bool:=
 if pk ts k bad= [] then([],k,Z) else if(ts.getD k ⟨0,[],0⟩).kind=1/\zi (pk ts k bad)=X then(pk ts k bad,k+1,bad) else([],k,Z)
theorem R8(h:pk ts k bad≠ []):bad=X/\k<ts.length:=by
 constructor
 ·cases bad;·rfl
  exact absurd rfl h
 rcases jl k ts.length with h1|h1;·exact h1
 exact absurd (JE h1 bad) h
theorem amJ(h:R:=by have sI:=G fH;clear fH aJ;go_wp2_with fail;go_ret;exact⟨ic,by rw[F.E];exact sI,aS⟩):R:=h
theorem agx(h:R:=by go_wp2_with fail;go_quiet(fail);go_wp2_with fail;refine(Pq (jU.go (below_drewN (aN _ _) _))).mono ?_;rintro e' w2 ⟨rfl,fH,aJ⟩;have aS:=G ((HB.tr (But.of (below_drewN (aN _ _) _))).tr aJ);exact amJ):R:=h
theorem R9(h:R:=by exact amJ):R:=h
theorem ace(h:Ps w g B Al nl cl ts e k bad):aF aa 143 #[aQ g] w λe' w'=>e'=aI (au ⟨(sJ ts k bad).1.toArray⟩)/\Ps w' g B Al nl cl ts e (sJ ts k bad).2.1 (sJ ts k bad).2.2/\But g w w':=by
 have HP:=G h;have kF:=G (Hu h);have hn:=h.hn;have hl:=h.len;by_cases h0:pk ts k bad= [];case pos=>
  have F:af (sJ ts k bad=([],k,Z)):=by show _=_;unfold sJ;rw[if_pos h0]
  rw[h0] at kF;clear h h0;go_enter func143,ntmps143;go_wp2_with fail;refine kF.mono ?_;rintro e' w1 ⟨rfl,aB⟩;have jU:=G (HP.go aB);have HB:=G (But.of (g:=g) aB);clear aB;exact agx
 obtain⟨DZ,dA⟩:=R8 h0;subst DZ;have e0:(pk ts k X== [])=X:=UW;have e1:(pk ts k X).isEmpty=X:=by cases q:pk ts k X with
  |nil=>exact absurd q h0
  |cons=>rfl
 have lM:pk ts k X=(ts.getD k ⟨0,[],0⟩).text:=Nj dA;have hS:sJ ts k X=if(ts.getD k ⟨0,[],0⟩).kind=1/\zi (pk ts k X)=X then(pk ts k X,k+1,X) else([],k,Z):=by unfold sJ;rw[if_neg h0]
 have Sa:=G (λW=>agu (pk ts k X) W);have q2:(k:Int)<(nl:Int):=I;obtain⟨ad,rfl,tL,d0,d1,d2⟩:=h.rd.Po (show k<nl by omega);have FP:=h.hB;have hlw:=h.lt;generalize(ts.getD k ⟨0,[],0⟩).kind=kd at*;have hinl:Pg KS (pk ts k X)=zi (pk ts k X):=rfl;rw[hinl] at Sa;clear d1 d2 lM hinl h;generalize pk ts k X=p at*;generalize zi p=kw at*;have HS:=G hS;clear hS h0;by_cases wH:kd=1;case neg=>
  have F:af (sJ ts k X=([],k,Z)):=by show _=_;rw[HS.E,if_neg (λq=>wH q.1)]
  have q1:(kd==1)=X:=by rw[beq_eq_false_iff_ne];exact wH
  have q1':(kd !=1)=Z:=by rw[bne,q1];rfl
  clear HS wH;go_enter func143,ntmps143;go_wp2_with fail;refine kF.mono ?_;rintro e' w1 ⟨rfl,aB⟩;have jU:=G (HP.go aB);obtain⟨c0,_,c2,_⟩:=jU.cells;have d0':=(aB.cell (p:=ad.add (k*3)) E9).trans d0;have HB:=G (But.of (g:=g) aB);clear aB d0;exact agx
 subst wH;have q1':((1:Int)!=1)=X:=rfl;cases kw;case true=>
  have F:af (sJ ts k X=([],k,Z)):=by show _=_;rw[HS.E,if_neg (λq=>by cases q.2)]
  clear HS;go_enter func143,ntmps143;go_wp2_with fail;refine kF.mono ?_;rintro e' w1 ⟨rfl,aB⟩;have jU:=G (HP.go aB);obtain⟨c0,_,c2,_⟩:=jU.cells;have d0':=(aB.cell (p:=ad.add (k*3)) E9).trans d0;have HB:=G (But.of (g:=g) aB);clear aB d0;go_wp2_with fail;go_quiet((go_at_call 148;exact Ph ((Sa _).mono MJ)));go_wp2_with fail;refine(Pq (jU.go (below_drewN (aN _ _) _))).mono ?_;rintro e' w2 ⟨rfl,fH,aJ⟩;have aS:=G ((HB.tr (But.of (below_drewN (aN _ _) _))).tr aJ);exact R9
 have F:af (sJ ts k X=(p,k+1,X)):=by show _=_;rw[HS.E,if_pos ⟨rfl,rfl⟩]
 clear HS;go_enter func143,ntmps143;go_wp2_with fail;refine kF.mono ?_;rintro e' w1 ⟨rfl,aB⟩;have jU:=G (HP.go aB);obtain⟨c0,_,c2,_⟩:=jU.cells;have d0':=(aB.cell (p:=ad.add (k*3)) E9).trans d0;have HB:=G (But.of (g:=g) aB);have hf:=jU.blk.frozen;clear aB d0;go_wp2_with fail;go_quiet((go_at_call 148;exact Ph ((Sa _).mono MJ)));go_wp2_with fail;go_ret;have HN:=(jU.go (below_drewN (aN _ _) nq)).JF (show k<nl by omega);exact⟨ic,by rw[F.E];exact HN.1,(HB.tr (But.of (below_drewN (aN _ _) nq))).tr HN.2⟩
end
def kL(ts:List Tok)(lo hi:Int)(k:Nat)(bad:Bool):Int × Nat × Bool:=
 if pk ts k bad= [] then(0,k,Z) else if vB (ts.getD k ⟨0,[],0⟩).kind (ts.getD k ⟨0,[],0⟩).text=Z/\lo<=vN (ts.getD k ⟨0,[],0⟩).kind (ts.getD k ⟨0,[],0⟩).text/\vN (ts.getD k ⟨0,[],0⟩).kind (ts.getD k ⟨0,[],0⟩).text<=hi then(vN (ts.getD k ⟨0,[],0⟩).kind (ts.getD k ⟨0,[],0⟩).text,k+1,bad) else(0,k,Z)
def Sb(wo:Y)(g:Nat)(sl:ak)(k:Nat)(p:aK)(kd:Int)(tx:List UInt8)(fr:Int)(W:Y):Prop:=
 aj wo wo W/\W.cell? ⟨g,0,J⟩=N sl/\W.cell? ⟨g,2,J⟩=N (C D k)/\W.cell? p=N (C D kd)/\W.cell? ⟨p.block,p.off+1,J⟩=N (au ⟨tx.toArray⟩)/\W.cell? ⟨p.block,p.off+2,J⟩=N (C D fr)
theorem Sb.step{wo:Y}{sl:ak}{p:aK}{tx:List UInt8}{fr:Int}(h:Sb wo g sl k p kd tx fr W)(hb:aj W W W')(h0:g<wo.heap.size)(hp:p.block<wo.heap.size):Sb wo g sl k p kd tx fr W':=by obtain⟨h1,h2,h3,h4,h5,h6⟩:=h;have hs:=h1.size;exact⟨aU h1 hb,(hb.cell (by show g<_;omega)).trans h2,(hb.cell (by show g<_;omega)).trans h3,(hb.cell I).trans h4,(hb.cell (by show p.block<_;omega)).trans h5,(hb.cell (by show p.block<_;omega)).trans h6⟩
section
variable{w:Y}{g B:Nat}{Al:Option aK}{nl cl:Nat}{ts:List Tok}{e:Int}{k:Nat}{bad:Bool}
theorem acf(h:R:=by have Pv:=Pw;have zn:=HBV;go_wp2_with fail;refine(Pq Pv).mono ?_;rintro e' w2 ⟨rfl,fH,aJ⟩;have aS:=G (zn.tr aJ);exact amJ):R:=h
theorem acg(h:Ps w g B Al nl cl ts e k bad)(lo hi:Int):aF aa 205 #[aQ g,lo,hi] w λe' w'=>e'=aI (C D (kL ts lo hi k bad).1)/\Ps w' g B Al nl cl ts e (kL ts lo hi k bad).2.1 (kL ts lo hi k bad).2.2/\But g w w':=by
 have HP:=G h;have kF:=G (Hu h);have hn:=h.hn;have hl:=h.len;by_cases h0:pk ts k bad= [];case pos=>
  have F:af (kL ts lo hi k bad=(0,k,Z)):=by show _=_;unfold kL;rw[if_pos h0]
  rw[h0] at kF;clear h h0;go_enter func205,ntmps205;go_wp2_with fail;refine kF.mono ?_;rintro e' w1 ⟨rfl,aB⟩;have Pv:=G (HP.go aB);have zn:=G (But.of (g:=g) aB);clear aB;go_wp2_with fail;refine(Pq Pv).mono ?_;rintro e' w2 ⟨rfl,fH,aJ⟩;have aS:=G (zn.tr aJ);exact R9
 obtain⟨DZ,dA⟩:=R8 h0;subst DZ;have e0:(pk ts k X== [])=X:=UW;have e1:(pk ts k X).isEmpty=X:=by cases q:pk ts k X with
  |nil=>exact absurd q h0
  |cons=>rfl
 have hS:kL ts lo hi k X=if vB (ts.getD k ⟨0,[],0⟩).kind (ts.getD k ⟨0,[],0⟩).text=Z/\lo<=vN (ts.getD k ⟨0,[],0⟩).kind (ts.getD k ⟨0,[],0⟩).text/\vN (ts.getD k ⟨0,[],0⟩).kind (ts.getD k ⟨0,[],0⟩).text<=hi then(vN (ts.getD k ⟨0,[],0⟩).kind (ts.getD k ⟨0,[],0⟩).text,k+1,X) else(0,k,Z):=by unfold kL;rw[if_neg h0]
 have q2:(k:Int)<(nl:Int):=I;have aX:=h.ao2 (show k<nl by omega);obtain⟨ad,rfl,tL,d0,d1,d2⟩:=h.rd.Po (show k<nl by omega);have FP:=h.hB;have hlw:=h.lt;generalize ts.getD k ⟨0,[],0⟩=t at*;obtain⟨kd,tx,fr⟩:=t;simp only[] at hS aX d0 d1 d2;have FQ:=G (λW=>agp kd tx fr W aX.2);clear h;generalize pk ts k X=p at*;generalize vB kd tx=vb at*;generalize vN kd tx=vn at*;have HS:=G hS;clear hS h0 aX;go_enter func205,ntmps205;go_wp2_with fail;refine kF.mono ?_;rintro e' w1 ⟨rfl,aB⟩;have jU:=G (HP.go aB);have HB:=G (But.of (g:=g) aB);have hlt1:g<w1.heap.size:=jU.lt;have Bv:(ad.add (k*3)).block<w1.heap.size:=E9;have hx:Sb w1 g (O (N ad) nl cl) k (ad.add (k*3)) kd tx fr w1:=by obtain⟨c0,_,c2,_⟩:=jU.cells;have hc:∀p:aK,p.block=ad.block->w1.cell? p=w.cell? p:=λp hp=>aB.cell I;exact⟨aN _ _,c0,c2,(hc _ (zX _ _)).trans d0,(hc ⟨(ad.add (k*3)).block,(ad.add (k*3)).off+1,J⟩ (zX _ _)).trans d1,(hc ⟨(ad.add (k*3)).block,(ad.add (k*3)).off+2,J⟩ (zX _ _)).trans d2⟩
 have mV:af (Sb w1 g (O (N ad) nl cl) k (ad.add (k*3)) kd tx fr w1.drew):=hx.step (qH (aN _ _)) hlt1 Bv;clear aB d0 d1 d2 hx;go_upto_region 4 with fail;refine iA (S:=Sb w1 g (O (N ad) nl cl) k (ad.add (k*3)) kd tx fr) dh mV (λbg=>?_);refine aA 0 ?_;refine aA 1 ?_;refine aA 2 ?_;refine aA 3 ?_;refine aA 4 ?_;refine aA 5 ?_;refine aA 6 ?_;refine aA 7 ?_;refine aA 8 ?_;refine aA 9 ?_;refine bK 10 (λK hK=>?_);go_simp;refine(FQ _).mono ?_;rintro e' wv ⟨rfl,hbv⟩;dsimp only
 refine bF hK (by exact bg.step hbv hlt1 Bv) (λbg=>?_);clear hK K;refine aA 11 ?_;refine aA 12 ?_;refine aA 13 ?_;refine aA 14 ?_;refine aA 15 ?_;refine gI ?_;have Pw:=G (jU.go bg.1);have HBV:=G (HB.tr (But.of (g:=g) bg.1));generalize wv=wf at*;clear hbv;repeat clear bg
 by_cases hv:vb=Z;case neg=>
  obtain rfl:vb=X:=by cases vb;rfl;exact absurd rfl hv
  have F:af (kL ts lo hi k X=(0,k,Z)):=by show _=_;rw[HS.E,if_neg (λq=>by cases q.1)]
  clear HS hv;exact acf
 subst hv;by_cases h1:lo<=vn;case neg=>
  have F:af (kL ts lo hi k X=(0,k,Z)):=by show _=_;rw[HS.E,if_neg (λq=>h1 q.2.1)]
  have q1:decide (vn<lo)=Z:=jO;clear HS h1;exact acf
 have q1:decide (vn<lo)=X:=fI;by_cases h2:vn<=hi;case neg=>
  have F:af (kL ts lo hi k X=(0,k,Z)):=by show _=_;rw[HS.E,if_neg (λq=>h2 q.2.2)]
  have q2:decide (vn>hi)=Z:=jO;have q2':decide (hi<vn)=Z:=jO;clear HS h1 h2;exact acf
 have F:af (kL ts lo hi k X=(vn,k+1,X)):=by show _=_;rw[HS.E,if_pos ⟨rfl,h1,h2⟩]
 have q2:decide (vn>hi)=X:=fI;have q2':decide (hi<vn)=X:=fI;clear HS h1 h2;obtain⟨_,_,c2,_⟩:=Pw.cells;have hf:=Pw.blk.frozen;go_wp2_with fail;go_ret;have HN:=Pw.JF (show k<nl by omega);exact⟨ic,by rw[F.E];exact HN.1,HBV.tr HN.2⟩
theorem Zx(h:Ps w g B Al nl cl ts e k bad):aF aa 147 #[aQ g] w λe' w'=>e'=aI (C D (kL ts 1 99999 k bad).1)/\Ps w' g B Al nl cl ts e (kL ts 1 99999 k bad).2.1 (kL ts 1 99999 k bad).2.2/\But g w w':=by have HN:=G (acg h 1 99999);clear h;generalize kL ts 1 99999 k bad=q at*;go_enter func147,ntmps147;go_wp2_with fail;refine HN.mono ?_;rintro e' w1 ⟨rfl,hp,hb⟩;go_wp2_with fail;go_ret;exact⟨rfl,hp,hb⟩
end
theorem ao6{a:Act}{K:Act->Y->Prop}(t:bM)(parts:Array (Nat × Operand))(ho:o.op= .build t parts)(vals:Array (Nat × ak))(hp:(parts.map λx=>(x.1,a.eval x.2))=vals)(v:ak)(gu:(Instr.build t vals).run P w= .ok v w)(h:K (a.put o.dst v) w):o.wp P a w K Q:=by unfold yt execOp;simp only[ho,hp,Sem.run_bind,Sem.run_pure,Result.andThen_ok,gu];exact h
theorem Vs{ops:Array Oper}{rest:List Oper}{a:Act}(Ff:o.guard=J)(t:bM)(parts:Array (Nat × Operand))(ho:o.op= .build t parts)(vals:Array (Nat × ak))(hp:(parts.map λx=>(x.1,a.eval x.2))=vals)(v:ak)(gu:(Instr.build t vals).run P w= .ok v w)(h:wpList P ops Q rest (a.put o.dst v) w):wpList P ops Q (o::rest) a w:=wpList_plain Ff λ_ hK=>ao6 t parts ho vals hp v gu (hK _ _ h)
def Bw:Array ak:=#[au ⟨#[111,114]⟩,C D 13,C D 1,au ⟨#[97,110,100]⟩,C D 12,C D 2,au ⟨#[60]⟩,C D 14,C D 4,au ⟨#[60,61]⟩,C D 15,C D 4,au ⟨#[61]⟩,C D 16,C D 4,au ⟨#[33,61]⟩,C D 17,C D 4,au ⟨#[62,61]⟩,C D 18,C D 4,au ⟨#[62]⟩,C D 19,C D 4,au ⟨#[43]⟩,C D 7,C D 5,au ⟨#[45]⟩,C D 8,C D 5,au ⟨#[42]⟩,C D 9,C D 6]
theorem ao7(w:Y):(Instr.build 274 #[(0,aD #[au ⟨#[111,114]⟩,C D 13,C D 1]),(1,aD #[au ⟨#[97,110,100]⟩,C D 12,C D 2]),(2,aD #[au ⟨#[60]⟩,C D 14,C D 4]),(3,aD #[au ⟨#[60,61]⟩,C D 15,C D 4]),(4,aD #[au ⟨#[61]⟩,C D 16,C D 4]),(5,aD #[au ⟨#[33,61]⟩,C D 17,C D 4]),(6,aD #[au ⟨#[62,61]⟩,C D 18,C D 4]),(7,aD #[au ⟨#[62]⟩,C D 19,C D 4]),(8,aD #[au ⟨#[43]⟩,C D 7,C D 5]),(9,aD #[au ⟨#[45]⟩,C D 8,C D 5]),(10,aD #[au ⟨#[42]⟩,C D 9,C D 6])]).run aa w= .ok (aD Bw) w:=by kernel_rfl
theorem agy:(aa.info? 274).map (·.size)=N Bw.size:=by kernel_rfl
theorem ao8:(#[au ⟨#[]⟩,C D 0,C D 0,au ⟨#[]⟩,C D 0,C D 0,au ⟨#[]⟩,C D 0,C D 0,au ⟨#[]⟩,C D 0,C D 0,au ⟨#[]⟩,C D 0,C D 0,au ⟨#[]⟩,C D 0,C D 0,au ⟨#[]⟩,C D 0,C D 0,au ⟨#[]⟩,C D 0,C D 0,au ⟨#[]⟩,C D 0,C D 0,au ⟨#[]⟩,C D 0,C D 0,au ⟨#[]⟩,C D 0,C D 0]:Array ak).size=Bw.size:=by kernel_rfl
theorem ao9:Bw.all (·.oneCell')=Z:=by kernel_rfl
theorem apa(h:ai w g 274 Bw)(h0:tmps.getD 0 undef=aQ g):(results f154 tmps).run aa w= .ok (aD Bw) w:=results_cell_row results154 tmps w g 274 Bw (0,0) _ h0 h underlying274 rfl agy
theorem Zy(w:Y):aF aa 154 #[] w λe w'=>e=aI (aD Bw)/\aj w w w':=by have hs:=run_storeCells_new (P:=aa) w 274 (#[au ⟨#[]⟩,C D 0,C D 0,au ⟨#[]⟩,C D 0,C D 0,au ⟨#[]⟩,C D 0,C D 0,au ⟨#[]⟩,C D 0,C D 0,au ⟨#[]⟩,C D 0,C D 0,au ⟨#[]⟩,C D 0,C D 0,au ⟨#[]⟩,C D 0,C D 0,au ⟨#[]⟩,C D 0,C D 0,au ⟨#[]⟩,C D 0,C D 0,au ⟨#[]⟩,C D 0,C D 0,au ⟨#[]⟩,C D 0,C D 0]:Array ak) Bw agy ao8 ao9;go_enter func154,ntmps154;go_wp2_with((with_reducible refine Vs rfl 274 _ rfl _ ?_ (aD Bw) (ao7 _) ?_);go_loud (simp only[List.map_toArray,kE,List.map_nil];rfl));refine eX (apa (g:=w.heap.size) (ai.new w _ _) rfl) rfl ⟨rfl,(aN _ _).alloc (aC _) _⟩
def FU(o:List UInt8 × Int × Nat):Array ak:=#[o.1,o.2.1,C D (o.2.2:Nat)]
theorem Zz:∀k:Nat,k<11->∀w:Y,(KW 274 (aD Bw) (C D (k:Int))).run aa w= .ok (aD (FU (jd.getD k ([],0,0)))) w:=by
 intro k hk;match k,hk with
 |0,_=>exact λw=>by kernel_rfl
 |1,_=>exact λw=>by kernel_rfl
 |2,_=>exact λw=>by kernel_rfl
 |3,_=>exact λw=>by kernel_rfl
 |4,_=>exact λw=>by kernel_rfl
 |5,_=>exact λw=>by kernel_rfl
 |6,_=>exact λw=>by kernel_rfl
 |7,_=>exact λw=>by kernel_rfl
 |8,_=>exact λw=>by kernel_rfl
 |9,_=>exact λw=>by kernel_rfl
 |10,_=>exact λw=>by kernel_rfl
 |n+11,h=>omega
def Hy(bG:Nat)(p:List UInt8)(o:List UInt8 × Int × Nat):Bool:=(o.2.2==bG)&&(p==o.1)
def Bz(bG:Nat)(p:List UInt8):Option (List UInt8 × Int × Nat):=jd.find? (Hy bG p)
def Vt(r:Option (List UInt8 × Int × Nat)):ak:=match r with
 |some o=>bz #[aD (FU o),Z]
 |none=>bz #[aD #[au ⟨#[]⟩,C D 0,C D 0],X]
theorem ach{p:α->Bool}{l:List α}(hk:k<l.length)(d:α)(h:(l.take k).find? p=J):(l.take (k+1)).find? p=if p (l.getD k d) then N (l.getD k d) else J:=by have e:l.getD k d=l[k]:=zV;rw[sD hk,List.find?_append,h,e];simp only[Option.none_or,List.find?_cons,List.find?_nil];cases p l[k]<;>rfl
theorem aci{p:α->Bool}{l:List α}{o:α}(h:(l.take k).find? p=N o):l.find? p=N o:=by rw[<-List.take_append_drop k l,List.find?_append,h];rfl
theorem Px:jd.length=11:=rfl
theorem ZA{T:bM}{a b c a' b' c':ak}(h:ai w g T #[a,b,c]):ai (((w.setCell ⟨g,0,J⟩ a').setCell ⟨g,1,J⟩ b').setCell ⟨g,2,J⟩ c') g T #[a',b',c']:=by have:=((h.bL 0 a').bL 1 b').bL 2 c';simpa using this
theorem agz{w0:Y}{a b c:ak}(h:aj B w0 w)(hB:B<=g):aj B w0 (((w.setCell ⟨g,0,J⟩ a).setCell ⟨g,1,J⟩ b).setCell ⟨g,2,J⟩ c):=((h.setCell (p:=⟨g,0,J⟩) hB a).setCell (p:=⟨g,1,J⟩) hB b).setCell (p:=⟨g,2,J⟩) hB c
section
variable{w:Y}{g B:Nat}{Al:Option aK}{nl cl:Nat}{ts:List Tok}{e:Int}{k:Nat}{bad:Bool}
theorem agA(h:R:=by go_wp2_with fail;exact⟨⟨i+1,bR,I,F2,below_drewN oq nq⟩,bW⟩):R:=h
theorem acj(h:Ps w g B Al nl cl ts e k bad)(bG:Nat):aF aa 249 #[aQ g,bG] w λe' w'=>e'=aI (Vt (Bz bG (pk ts k bad)))/\aj w w w':=by
 have kF:af (∀W:Y,aj w w W->aF aa 145 #[aQ g] W λe' w'=>e'=aI (au ⟨(pk ts k bad).toArray⟩)/\∃m,w'=W.drewN m):=λW hW=>agv (h.go hW);clear h;generalize pk ts k bad=p at*;have aP:=G ((aN w w).alloc (aC _) (ag #[au ⟨#[]⟩,C D 0,C D 0] 273));have jL:=G (ai.new w 273 #[au ⟨#[]⟩,C D 0,C D 0]);go_enter func249,ntmps249;go_wp2_with fail;refine(Zy _).mono ?_;rintro e' w1 ⟨rfl,aB⟩;have aM:=G (aU aP aB);have ku:=G (jL.below aB aG);have ed:w.heap.size<w1.heap.size:=zT;clear aB aP jL;generalize Hz:(Value.agg Bw)=Py at*;have H5:af (∀k:Nat,k<11->∀w:Y,(KW 274 Py (C D (k:Int))).run aa w= .ok (aD (FU (jd.getD k ([],0,0)))) w):=by show ∀k:Nat,_;rw[<-Hz];exact Zz
 clear Hz;go_wp2_with fail;go_loopw [9] (λiv wr=>∃i:Nat,iv=C D i/\i<=11/\(jd.take i).find? (Hy bG p)=J/\aj w1 w1 wr) (λiv _=>11-(intOf iv).toNat);case atStart=>exact⟨0,rfl,I,rfl,aN _ _⟩
 obtain⟨i,rfl,hi,hf,aH⟩:=hrel;obtain⟨wo,rfl⟩:=dz wr;have bA:=G aH;have eP:=aH.size;by_cases aO:i<11;case neg=>
  have k3:decide ((i:Int)<11)=X:=fI;have F:af (Bz bG p=J):=by have e1:jd.take i=jd:=o7 (by rw[Px];omega);show _=_;unfold Bz;rw[<-hf,e1]
  have hR:=ku.below aH ed;have c0:=hR.cell 0;have c1:=hR.cell 1;have c2:=hR.cell 2;have iB:=hR.frozen;simp only[iH,iX,iI] at c0 c1 c2;clear hf aH;go_wp2_with fail;have hz:=agz (a:=au ⟨#[]⟩) (b:=C D 0) (c:=C D 0) (aU aM bA) (aC _);have jM:=ZA (a':=au ⟨#[]⟩) (b':=C D 0) (c':=C D 0) hR;generalize Bp _ ⟨w,2,J⟩ _=wq at*;have z0:=jM.cell 0;have z1:=jM.cell 1;have z2:=jM.cell 2;simp only[iH,iX,iI] at z0 z1 z2;refine eX (v:=bz #[aD #[au ⟨#[]⟩,C D 0,C D 0],X]) ?_ rfl ⟨ic,hz⟩;simp[results,results249,go_sem,z0,z1,z2]
 have k3:decide ((i:Int)<11)=Z:=jO;have D5:=H5 i aO;have FS:=G (ach (show i<jd.length by rw[Px];exact aO) ([],0,0) hf);generalize jd.getD i ([],0,0)=o at*;obtain⟨tx,kd,lv⟩:=o;unfold FU at D5;simp only[] at D5;have hX:=ai.new wo 273 #[tx,kd,C D (lv:Nat)];have c0:=hX.cell 0;have c2:=hX.cell 2;simp only[iH,iX,iI] at c0 c2;have HX:=G hX;have oq:=G (aH.alloc eP (ag #[tx,kd,C D (lv:Nat)] 273));have Pz:af (∀W:Y,aj w1 w1 W->aF aa 145 #[aQ g] W λe' w'=>e'=aI p/\∃m,w'=W.drewN m):=λW hW=>kF W (aU aM hW);clear hf aH hX;go_upto_region 4 with fail;generalize wo.alloc (ag #[tx,kd,C D (lv:Nat)] 273)=wz at*;cases h1:((lv:Int)==(bG:Int));case false=>
  have F2:af ((jd.take (i+1)).find? (Hy bG p)=J):=by
   show _=_;rw[FS.E];have:Hy bG p (tx,kd,lv)=X:=by
    unfold Hy;have:(lv==bG)=X:=by rw[beq_eq_false_iff_ne] at h1 |-;omega
    rw[this];rfl
   rw[this];rfl
  clear FS;go_quiet(fail);exact agA
 have fO:lv=bG:=by rw[beq_iff_eq] at h1;omega
 subst fO;cases h2:(p==tx);case false=>
  have F2:af ((jd.take (i+1)).find? (Hy lv p)=J):=by
   show _=_;rw[FS.E];have:Hy lv p (tx,kd,lv)=X:=by unfold Hy;rw[h2];simp
   rw[this];rfl
  clear FS;go_quiet((go_at_call 145;refine Calls.quiet_of (Pz _ ?_);exact below_drewN oq _));exact agA
 have F2:af (Bz lv p=N (tx,kd,lv)):=by
  refine aci (k:=i+1) ?_;rw[FS.E];have:Hy lv p (tx,kd,lv)=Z:=by unfold Hy;rw[h2];simp
  rw[this];rfl
 clear FS;go_quiet((go_at_call 145;refine Calls.quiet_of (Pz _ ?_);exact below_drewN oq _));have hR:=ku.below oq ed;have d0:=hR.cell 0;have d1:=hR.cell 1;have d2:=hR.cell 2;have iB:=hR.frozen;have c1:=HX.cell 1;simp only[iH,iX,iI] at d0 d1 d2 c1;go_wp2_with fail;have hz:=agz (a:=au ⟨tx.toArray⟩) (b:=C D kd) (c:=C D (lv:Nat)) (aU aM (below_drewN oq nq)) (aC _);have jM:=ZA (a':=au ⟨tx.toArray⟩) (b':=C D kd) (c':=C D (lv:Nat)) (hR.drewN nq);generalize Bp _ ⟨w,2,J⟩ _=wq at*;have z0:=jM.cell 0;have z1:=jM.cell 1;have z2:=jM.cell 2;simp only[iH,iX,iI] at z0 z1 z2;refine eX (v:=bz #[aD #[tx,kd,C D (lv:Nat)],Z]) ?_ rfl ⟨Rz,hz⟩;simp[results,results249,go_sem,z0,z1,z2]
end
abbrev D6(w:Y)(g:Nat)(a b c d e f:ak):Y:=(((((w.setCell ⟨g,0,J⟩ a).setCell ⟨g,1,J⟩ b).setCell ⟨g,2,J⟩ c).setCell ⟨g,3,J⟩ d).setCell ⟨g,4,J⟩ e).setCell ⟨g,5,J⟩ f
section
variable{w w0:Y}{g g2:Nat}{T:bM}{cs:Array ak}{a b c d e f a' b' c' d' e' f':ak}
theorem vw(h:ai w g T #[a,b,c,d,e,f]):ai (D6 w g a' b' c' d' e' f') g T #[a',b',c',d',e',f']:=by have:=(((((h.bL 0 a').bL 1 b').bL 2 c').bL 3 d').bL 4 e').bL 5 f';simpa using this
theorem gW(h:ai w g T #[a,b,c,d,e,f]):w.cell? ⟨g,0,J⟩=N a/\w.cell? ⟨g,1,J⟩=N b/\w.cell? ⟨g,2,J⟩=N c/\w.cell? ⟨g,3,J⟩=N d/\w.cell? ⟨g,4,J⟩=N e/\w.cell? ⟨g,5,J⟩=N f:=⟨h.cell 0,h.cell 1,h.cell 2,h.cell 3,h.cell 4,h.cell 5⟩
theorem ky(k:Nat)(hk:k≠g):(D6 w g a b c d e f).heap[k]?=w.heap[k]?:=by unfold D6;rw[jm _ ⟨g,5,J⟩ f k hk,jm _ ⟨g,4,J⟩ e k hk,jm _ ⟨g,3,J⟩ d k hk,jm _ ⟨g,2,J⟩ c k hk,jm _ ⟨g,1,J⟩ b k hk,jm _ ⟨g,0,J⟩ a k hk]
theorem KX(h:ai w g2 T cs)(aY:g2≠g):ai (D6 w g a b c d e f) g2 T cs:=(ky g2 aY).trans h
theorem E8:(D6 w g a b c d e f).heap.size=w.heap.size:=by simp[D6]
theorem vz{gp:Nat}(h:But gp w0 w)(hg:w0.heap.size<=g):But gp w0 (D6 w g a b c d e f):=(((((h.qG (p:=⟨g,0,J⟩) hg a).qG (p:=⟨g,1,J⟩) hg b).qG (p:=⟨g,2,J⟩) hg c).qG (p:=⟨g,3,J⟩) hg d).qG (p:=⟨g,4,J⟩) hg e).qG (p:=⟨g,5,J⟩) hg f
end
theorem Ps.heap{Al:Option aK}{nl cl:Nat}{e:Int}(h:Ps w g B Al nl cl ts e k bad)(hk:∀q,q<=g->w'.heap[q]?=w.heap[q]?):Ps w' g B Al nl cl ts e k bad:=⟨(hk g (aC _)).trans h.blk,h.rd.keep λp hp=>He (hk _ (by have:=h.hB;omega)),h.hB,h.hk,h.hn,h.hc,h.ok⟩
theorem Vu(ts:List Tok)(k:Nat):pk ts k X=bN ((aZ ts).drop k):=rfl
theorem Ai(l:List Tk)(k:Nat):(l.drop k).tail=l.drop (k+1):=by rw[List.tail_drop]
theorem Vv(l:Nat)(ts:List Tk):xB l ts=(Bz l (bN ts)).map λo=>o.2.1:=rfl
theorem ZB(l:Nat):Bz l []=J:=by unfold Bz;rw[List.find?_eq_none];intro o ho;simp only[jd,jZ,nJ,or_false] at ho;rcases ho with rfl|rfl|rfl|rfl|rfl|rfl|rfl|rfl|rfl|rfl|rfl<;>simp[Hy,Vi,Vh]
theorem apb(n:Nat)(ts:List Tk):pE (n+1) (.bG 0) ts=pE n (.bin 1) ts:=by simp[pE]
theorem apc(n:Nat)(ts:List Tk):pE (n+1) (.bG 1) ts=pE n (.bin 1) ts:=by simp[pE]
theorem apd(n:Nat)(ts:List Tk):pE (n+1) (.bG 2) ts=pE n (.bin 2) ts:=by simp[pE]
theorem agB(n:Nat)(ts:List Tk):pE (n+1) (.bG 3) ts=if bN ts=uH then(pE n (.bG 3) ts.tail).map (λq=>(Ex.un (hk 6) q.1,q.2)) else pE n (.bG 4) ts:=by simp[pE]
theorem ack(n:Nat)(ts:List Tk):pE (n+1) (.bG 4) ts=(pE n (.bG 5) ts).bind λq=>match xB 4 q.2 with
   |none=>N q
   |some k=>(pE n (.bG 5) q.2.tail).map λq'=>(.bi (hk k) q.1 q'.1,q'.2):=by simp only[pE];rfl
theorem ape(n:Nat)(ts:List Tk):pE (n+1) (.bG 5) ts=pE n (.bin 5) ts:=by simp[pE]
theorem apf(n:Nat)(ts:List Tk):pE (n+1) (.bG 6) ts=pE n (.bin 6) ts:=by simp[pE]
theorem agC(n:Nat)(ts:List Tk):pE (n+1) (.bG 7) ts=if bN ts= [45] then(pE n (.bG 7) ts.tail).map (λq=>(Ex.un (hk 3) q.1,q.2)) else pE n .iU ts:=by simp[pE]
theorem apg(n:Nat)(ts:List Tk):pE (n+1) (.bG 8) ts=pE n .iU ts:=by simp[pE]
def jP(n:Nat)(md:Md)(ts:List Tok)(k:Nat)(bad:Bool)(x:Ex)(k':Nat)(CO:Bool):Prop:=
 k<=k'/\(CO=X->bad=X/\k<k'/\pE n md ((aZ ts).drop k)=N (x,(aZ ts).drop k'))/\(CO=Z->bad=Z\/pE n md ((aZ ts).drop k)=J)
theorem jP.up{md':Md}(h:jP n md ts k bad x k' CO)(e:pE n' md' ((aZ ts).drop k)=pE n md ((aZ ts).drop k)):jP n' md' ts k bad x k' CO:=by unfold jP;rw[e];exact h
def qi(n:Nat)(md:Md)(w:Y)(g B:Nat)(Al:Option aK)(nl cl:Nat)(ts:List Tok)(e:Int)(k:Nat)(bad:Bool)(e':Ending)(w':Y):Prop:=
 ∃(x:Ex) (kd vl fr az:Int) (nm:List UInt8) (A:Option aK) (na ca k':Nat) (CO:Bool),x.hd=⟨kd,vl,fr,az,nm⟩/\e'=aI (aD #[kd,vl,fr,az,nm,O A na ca])/\
  eU w' (λq=>w.heap.size<=q/\q<w'.heap.size) x (O A na ca)/\Ps w' g B Al nl cl ts e k' CO/\But g w w'/\jP n md ts k bad x k' CO
theorem Nl{a b c e:ak}(h:ai w q 128 #[a,b,c,d,e,f])(h0:tmps.getD 4 undef=aQ q):(results f204 tmps).run aa w= .ok (aD #[a,b,c,d,e,f]) w:=results_cell_row results204 tmps w q 128 #[a,b,c,d,e,f] (0,0) _ h0 h underlying128 rfl dh
section
variable{w:Y}{g B:Nat}{Al:Option aK}{nl cl:Nat}{ts:List Tok}{e:Int}{k:Nat}{bad:Bool}
def tN(n:Nat)(w:Y)(g B:Nat)(Al:Option aK)(nl cl:Nat)(ts:List Tok)(e:Int)(r:Nat):Prop:=
 (∀(l:Nat) (W:Y) (k:Nat) (bad:Bool),l<=8->nl-k<=r->20*(nl-k)+2*(8-l)+4<=n->Ps W g B Al nl cl ts e k bad->aF aa 204 #[aQ g,C D (l:Nat)] W (qi n (.bG l) W g B Al nl cl ts e k bad))/\
 (∀(l:Nat) (W:Y) (k:Nat),1<=l->l<=6->nl-k<=r->20*(nl-k)+2*(8-l)+3<=n->Ps W g B Al nl cl ts e k X->aF aa 248 #[aQ g,C D (l:Nat)] W (qi n (.bin l) W g B Al nl cl ts e k X))/\
 (∀(W:Y) (k:Nat),nl-k<=r->20*(nl-k)+1<=n->Ps W g B Al nl cl ts e k X->aF aa 250 #[aQ g] W (qi n .iU W g B Al nl cl ts e k X))
theorem aph(h:Ps w g B Al nl cl ts e k Z)(l:Int)(md:Md)(n:Nat):aF aa 204 #[aQ g,l] w (qi n md w g B Al nl cl ts e k Z):=by have aP:=G ((aN w w).alloc (aC _) (ag #[C D 0,C D 0,C D 0,C D 0,au ⟨#[]⟩,O J 0 0] 128));have jL:=G (ai.new w 128 #[C D 0,C D 0,C D 0,C D 0,au ⟨#[]⟩,O J 0 0]);have iJ:=G (h.go aP);obtain⟨_,_,_,c3⟩:=iJ.cells;go_enter func204,ntmps204;go_wp2_with fail;refine eX (Nl (by exact jL) rfl) rfl ⟨.lf ⟨0,0,0,0,[]⟩,0,0,0,0,[],J,0,0,k,Z,rfl,rfl,rfl,iJ,But.of aP,aC _,(λq=>by cases q),(λ_=> .inl rfl)⟩
theorem agD(h:R:=by exact hv.keep (λq hq=>ky q Rj) (λq hq=>⟨Rj,YU⟩)):R:=h
theorem Vw(h:R:=by have aP:=G ((aN w w).alloc (aC _) (ag #[C D 0,C D 0,C D 0,C D 0,au ⟨#[]⟩,O J 0 0] 128));have jL:=G (ai.new w 128 #[C D 0,C D 0,C D 0,C D 0,au ⟨#[]⟩,O J 0 0]);have iJ:=G (h.go aP);have aO:=h.lt;obtain⟨_,_,_,c3⟩:=iJ.cells;have HC:=G (lX _ iJ);clear h H lX;go_enter func204,ntmps204;go_wp2_with fail;refine HC.mono ?_;rintro e' w1 ⟨x,kd,vl,fr,az,nm,A,na,ca,k1,b1,hx,rfl,hv,hp,hb,kM⟩;have ku:=G (jL.but hb I);have iB:=ku.frozen;obtain⟨y0,y1,y2,y3,y4,y5⟩:=gW ku;have BA:=G (bI hv (bI hp (bI hb (bI kM hx))));clear hv hp hb kM hx;go_wp2_with fail;obtain⟨hv,hp,hb,kM,hx⟩:=BA;refine eX (Nl (vw (by exact ku)) rfl) rfl ⟨x,kd,vl,fr,az,nm,A,na,ca,k1,b1,hx,rfl,?_,hp.heap (λq hq=>ky q I),vz ((But.of aP).tr hb) (aC _),kM.up (by rw[EQ.E])⟩;exact agD):R:=h
theorem api(h:Ps w g B Al nl cl ts e k X)(n r:Nat)(hM:nl-k<=r)(hF:20*(nl-k)+17<=n)(H:tN n w g B Al nl cl ts e r):aF aa 204 #[aQ g,C D 0] w (qi (n+1) (.bG 0) w g B Al nl cl ts e k X):=by have lX:=λW=>H.2.1 1 W k I I hM I;simp only[show((1:Nat):Int)=1 from rfl] at lX;have EQ:=G (apb n ((aZ ts).drop k));exact Vw
theorem apj(h:Ps w g B Al nl cl ts e k X)(n r:Nat)(hM:nl-k<=r)(hF:20*(nl-k)+17<=n)(H:tN n w g B Al nl cl ts e r):aF aa 204 #[aQ g,C D 1] w (qi (n+1) (.bG 1) w g B Al nl cl ts e k X):=by have lX:=λW=>H.2.1 1 W k I I hM I;simp only[show((1:Nat):Int)=1 from rfl] at lX;have EQ:=G (apc n ((aZ ts).drop k));exact Vw
theorem apk(h:Ps w g B Al nl cl ts e k X)(n r:Nat)(hM:nl-k<=r)(hF:20*(nl-k)+15<=n)(H:tN n w g B Al nl cl ts e r):aF aa 204 #[aQ g,C D 2] w (qi (n+1) (.bG 2) w g B Al nl cl ts e k X):=by have lX:=λW=>H.2.1 2 W k I I hM I;simp only[show((2:Nat):Int)=2 from rfl] at lX;have EQ:=G (apd n ((aZ ts).drop k));exact Vw
theorem apl(h:Ps w g B Al nl cl ts e k X)(n r:Nat)(hM:nl-k<=r)(hF:20*(nl-k)+9<=n)(H:tN n w g B Al nl cl ts e r):aF aa 204 #[aQ g,C D 5] w (qi (n+1) (.bG 5) w g B Al nl cl ts e k X):=by have lX:=λW=>H.2.1 5 W k I I hM I;simp only[show((5:Nat):Int)=5 from rfl] at lX;have EQ:=G (ape n ((aZ ts).drop k));exact Vw
theorem apm(h:Ps w g B Al nl cl ts e k X)(n r:Nat)(hM:nl-k<=r)(hF:20*(nl-k)+7<=n)(H:tN n w g B Al nl cl ts e r):aF aa 204 #[aQ g,C D 6] w (qi (n+1) (.bG 6) w g B Al nl cl ts e k X):=by have lX:=λW=>H.2.1 6 W k I I hM I;simp only[show((6:Nat):Int)=6 from rfl] at lX;have EQ:=G (apf n ((aZ ts).drop k));exact Vw
theorem apn(h:Ps w g B Al nl cl ts e k X)(n r:Nat)(hM:nl-k<=r)(hF:20*(nl-k)+1<=n)(H:tN n w g B Al nl cl ts e r):aF aa 204 #[aQ g,C D 8] w (qi (n+1) (.bG 8) w g B Al nl cl ts e k X):=by have aP:=G ((aN w w).alloc (aC _) (ag #[C D 0,C D 0,C D 0,C D 0,au ⟨#[]⟩,O J 0 0] 128));have jL:=G (ai.new w 128 #[C D 0,C D 0,C D 0,C D 0,au ⟨#[]⟩,O J 0 0]);have iJ:=G (h.go aP);have aO:=h.lt;obtain⟨_,_,_,c3⟩:=iJ.cells;have HC:=G (H.2.2 _ k hM I iJ);clear h H;go_enter func204,ntmps204;go_wp2_with fail;refine HC.mono ?_;rintro e' w1 ⟨x,kd,vl,fr,az,nm,A,na,ca,k1,b1,hx,rfl,hv,hp,hb,kM⟩;have ku:=G (jL.but hb I);have iB:=ku.frozen;obtain⟨y0,y1,y2,y3,y4,y5⟩:=gW ku;have BA:=G (bI hv (bI hp (bI hb (bI kM hx))));clear hv hp hb kM hx;go_wp2_with fail;obtain⟨hv,hp,hb,kM,hx⟩:=BA;refine eX (Nl (vw (by exact ku)) rfl) rfl ⟨x,kd,vl,fr,az,nm,A,na,ca,k1,b1,hx,rfl,?_,hp.heap (λq hq=>ky q I),vz ((But.of aP).tr hb) (aC _),kM.up (by rw[apg])⟩;exact agD
end
section
variable{w:Y}{g B:Nat}{Al:Option aK}{nl cl:Nat}{ts:List Tok}{e:Int}{k:Nat}{bad:Bool}
theorem jP.un{md':Md}{k0:Nat}{hd:lL}(h:jP n md ts (k0+1) X x k' CO)(e:pE n' md' ((aZ ts).drop k0)=(pE n md ((aZ ts).drop (k0+1))).map λq=>(.un hd q.1,q.2)):jP n' md' ts k0 X (.un hd x) k' CO:=by
 obtain⟨h1,h2,h3⟩:=h;refine⟨I,λq=>?_,λq=>?_⟩;·obtain⟨a,b,c⟩:=h2 q;exact⟨rfl,I,by rw[e,c];rfl⟩
 rcases h3 q with a|a;·cases a
 exact .inr (by rw[e,a];rfl)
theorem agE(h:R:=by clear lM gD h H;go_wp2_with fail;refine HC.mono ?_;rintro e' w1 ⟨x,kd,vl,fr,az,nm,A,na,ca,k1,b1,hx,rfl,hv,hp,hb,kM⟩;have ku:=G (wI.but hb I);have iB:=ku.frozen;obtain⟨y0,y1,y2,y3,y4,y5⟩:=gW ku;have BA:=G (bI hv (bI hp (bI hb (bI kM hx))));clear hv hp hb kM hx;go_wp2_with fail;obtain⟨hv,hp,hb,kM,hx⟩:=BA;refine eX (Nl (vw (by exact ku)) rfl) rfl ⟨x,kd,vl,fr,az,nm,A,na,ca,k1,b1,hx,rfl,?_,hp.heap (λq hq=>ky q I),vz (H6.tr hb) (aC _),kM.up (by rw[EQ.E])⟩;exact hv.keep (λq hq=>ky q qO) (λq hq=>⟨qO,YU⟩)):R:=h
theorem agF(h:R:=by exact hv.keep (λq hq=>(nK _ _ q YU).trans (ky q qO)) (λq hq=>⟨qO,by simp only[aW];rw[E8];have:=hq.2;omega⟩)):R:=h
theorem agG(h:R:=by
  rcases jl k nl with h1|h1;·exact h1
  ·rw[JE (by have:=h.len;omega),beq_iff_eq] at hq;exact absurd hq aL):R:=h
theorem apo(h:Ps w g B Al nl cl ts e k X)(n r:Nat)(hM:nl-k<=r)(hF:20*(nl-k)+6<=n+1)(H:tN n w g B Al nl cl ts e r):aF aa 204 #[aQ g,C D 7] w (qi (n+1) (.bG 7) w g B Al nl cl ts e k X):=by
 have aP:=G ((aN w w).alloc (aC _) (ag #[C D 0,C D 0,C D 0,C D 0,au ⟨#[]⟩,O J 0 0] 128));have jL:=G (ai.new w 128 #[C D 0,C D 0,C D 0,C D 0,au ⟨#[]⟩,O J 0 0]);have iJ:=G (h.go aP);have aO:=h.lt;obtain⟨_,_,_,c3⟩:=iJ.cells;have HT:=G (Nk iJ [45] aL);have CP:af ((pk ts k X== [45])=Z->k<nl):=λhq=>by exact agG
 have qx:pk ts k X=bN ((aZ ts).drop k):=rfl;cases iE:(pk ts k X== [45]);case false=>
  have aY:¬bN ((aZ ts).drop k)= [45]:=afv;have EQ:af (pE (n+1) (.bG 7) ((aZ ts).drop k)=pE n .iU ((aZ ts).drop k)):=by show _=_;rw[agC,if_neg aY]
  rw[iE] at HT;simp only[lK,if_false] at HT;clear iE aY qx CP;go_enter func204,ntmps204;go_wp2_with fail;refine HT.mono ?_;rintro e' wt ⟨rfl,lM,gD⟩;have H6:=G ((But.of (g:=g) aP).tr gD);have wI:=G (jL.but gD I);have fP:w.heap.size<wt.heap.size:=Yx;have HC:=G (H.2.2 wt k hM I lM);exact agE
 have vC:k<nl:=CP iE;have hye:bN ((aZ ts).drop k)= [45]:=afE;have EQ:af (pE (n+1) (.bG 7) ((aZ ts).drop k)=(pE n (.bG 7) ((aZ ts).drop (k+1))).map λq=>(.un (hk 3) q.1,q.2)):=by show _=_;rw[agC,if_pos hye,Ai]
 rw[iE] at HT;simp only[if_true] at HT;clear iE hye qx CP;go_enter func204,ntmps204;go_wp2_with fail;refine HT.mono ?_;rintro e' wt ⟨rfl,lM,gD⟩;have H6:=G ((But.of (g:=g) aP).tr gD);have wI:=G (jL.but gD I);have fP:w.heap.size<wt.heap.size:=Yx;have HC:=G (H.1 7 wt (k+1) X I I I lM);rw[show((7:Nat):Int)=7 from rfl] at HC;clear lM gD h H;go_wp2_with fail;refine HC.mono ?_;rintro e' w1 ⟨x,kd,vl,fr,az,nm,A,na,ca,k1,b1,hx,rfl,hv,hp,hb,kM⟩;have ku:=G ((wI.but hb I).alloc (ag #[kd,vl,fr,az,nm,O A na ca] 128));have iB:=ku.frozen;obtain⟨y0,_,_,_,_,_⟩:=gW ku;have HRW:=G (wI.but hb I);have apq:=HRW.frozen;obtain⟨_,x1,x2,x3,x4,x5⟩:=gW HRW;have ed:w.heap.size<w1.heap.size:=by have:=hb.size;omega
 have BA:=G (bI hv (bI hp (bI hb (bI kM hx))));clear hv hp hb kM hx;go_wp2_with fail;obtain⟨hv,hp,hb,kM,hx⟩:=BA;have R7:ai ((D6 w1 w (C D 3) (C D 0) (C D 0) (C D 0) (au ⟨#[]⟩) (O w1 1 1)).alloc (ag #[kd,vl,fr,az,nm,O A na ca] 128)) w1 128 (FK x.hd (O A na ca)).toArray:=by have:=ai.new (D6 w1 w (C D 3) (C D 0) (C D 0) (C D 0) (au ⟨#[]⟩) (O w1 1 1)) 128 #[kd,vl,fr,az,nm,O A na ca];rw[E8] at this;rw[hx];exact this
 have sK:=vz (a:=C D 3) (b:=C D 0) (c:=C D 0) (d:=C D 0) (e:=au ⟨#[]⟩) (f:=O w1 1 1) (H6.tr hb) (aC _);have hpw:Ps (D6 w1 w (C D 3) (C D 0) (C D 0) (C D 0) (au ⟨#[]⟩) (O w1 1 1)) g B Al nl cl ts e k1 b1:=hp.heap (λq hq=>ky q I);refine eX (Nl ((vw (by exact HRW)).alloc _) rfl) rfl ⟨.un (hk 3) x,3,0,0,0,[],N ⟨w1,0,J⟩,1,1,k1,b1,rfl,rfl,⟨w1.heap.size,O A na ca,rfl,⟨I,afs⟩,R7,?_⟩,hpw.go ((aN _ _).alloc (aC _) _),sK.alloc _,kM.un EQ⟩;exact agF
theorem apr(h:Ps w g B Al nl cl ts e k X)(n r:Nat)(hM:nl-k<=r)(hF:20*(nl-k)+14<=n+1)(H:tN n w g B Al nl cl ts e r):aF aa 204 #[aQ g,C D 3] w (qi (n+1) (.bG 3) w g B Al nl cl ts e k X):=by
 have aP:=G ((aN w w).alloc (aC _) (ag #[C D 0,C D 0,C D 0,C D 0,au ⟨#[]⟩,O J 0 0] 128));have jL:=G (ai.new w 128 #[C D 0,C D 0,C D 0,C D 0,au ⟨#[]⟩,O J 0 0]);have iJ:=G (h.go aP);have aO:=h.lt;obtain⟨_,_,_,c3⟩:=iJ.cells;have HT:=G (Nk iJ uH aL);have CP:af ((pk ts k X==uH)=Z->k<nl):=λhq=>by exact agG
 have qx:pk ts k X=bN ((aZ ts).drop k):=rfl;cases iE:(pk ts k X==uH);case false=>
  have aY:¬bN ((aZ ts).drop k)=uH:=afv;have EQ:af (pE (n+1) (.bG 3) ((aZ ts).drop k)=pE n (.bG 4) ((aZ ts).drop k)):=by show _=_;rw[agB,if_neg aY]
  rw[iE] at HT;simp only[lK,if_false] at HT;clear iE aY qx CP;go_enter func204,ntmps204;go_wp2_with fail;refine HT.mono ?_;rintro e' wt ⟨rfl,lM,gD⟩;have H6:=G ((But.of (g:=g) aP).tr gD);have wI:=G (jL.but gD I);have fP:w.heap.size<wt.heap.size:=Yx;have HC:=G (H.1 4 wt k X I hM I lM);exact agE
 have vC:k<nl:=CP iE;have hye:bN ((aZ ts).drop k)=uH:=afE;have EQ:af (pE (n+1) (.bG 3) ((aZ ts).drop k)=(pE n (.bG 3) ((aZ ts).drop (k+1))).map λq=>(.un (hk 6) q.1,q.2)):=by show _=_;rw[agB,if_pos hye,Ai]
 rw[iE] at HT;simp only[if_true] at HT;clear iE hye qx CP;go_enter func204,ntmps204;go_wp2_with fail;refine HT.mono ?_;rintro e' wt ⟨rfl,lM,gD⟩;have H6:=G ((But.of (g:=g) aP).tr gD);have wI:=G (jL.but gD I);have fP:w.heap.size<wt.heap.size:=Yx;have HC:=G (H.1 3 wt (k+1) X I I I lM);rw[show((3:Nat):Int)=3 from rfl] at HC;clear lM gD h H;go_wp2_with fail;refine HC.mono ?_;rintro e' w1 ⟨x,kd,vl,fr,az,nm,A,na,ca,k1,b1,hx,rfl,hv,hp,hb,kM⟩;have ku:=G ((wI.but hb I).alloc (ag #[kd,vl,fr,az,nm,O A na ca] 128));have iB:=ku.frozen;obtain⟨y0,_,_,_,_,_⟩:=gW ku;have HRW:=G (wI.but hb I);have apq:=HRW.frozen;obtain⟨_,x1,x2,x3,x4,x5⟩:=gW HRW;have ed:w.heap.size<w1.heap.size:=by have:=hb.size;omega
 have BA:=G (bI hv (bI hp (bI hb (bI kM hx))));clear hv hp hb kM hx;go_wp2_with fail;obtain⟨hv,hp,hb,kM,hx⟩:=BA;have R7:ai ((D6 w1 w (C D 6) (C D 0) (C D 0) (C D 0) (au ⟨#[]⟩) (O w1 1 1)).alloc (ag #[kd,vl,fr,az,nm,O A na ca] 128)) w1 128 (FK x.hd (O A na ca)).toArray:=by have:=ai.new (D6 w1 w (C D 6) (C D 0) (C D 0) (C D 0) (au ⟨#[]⟩) (O w1 1 1)) 128 #[kd,vl,fr,az,nm,O A na ca];rw[E8] at this;rw[hx];exact this
 have sK:=vz (a:=C D 6) (b:=C D 0) (c:=C D 0) (d:=C D 0) (e:=au ⟨#[]⟩) (f:=O w1 1 1) (H6.tr hb) (aC _);have hpw:Ps (D6 w1 w (C D 6) (C D 0) (C D 0) (C D 0) (au ⟨#[]⟩) (O w1 1 1)) g B Al nl cl ts e k1 b1:=hp.heap (λq hq=>ky q I);refine eX (Nl ((vw (by exact HRW)).alloc _) rfl) rfl ⟨.un (hk 6) x,6,0,0,0,[],N ⟨w1,0,J⟩,1,1,k1,b1,rfl,rfl,⟨w1.heap.size,O A na ca,rfl,⟨I,afs⟩,R7,?_⟩,hpw.go ((aN _ _).alloc (aC _) _),sK.alloc _,kM.un EQ⟩;exact agF
end
def Nn(n0 g6:Nat)(kv:ak)(g5:Nat)(a b c d e f:ak)(W:Y):Prop:=
 n0<=W.heap.size/\W.cell? ⟨g6,1,J⟩=N kv/\W.cell? ⟨g5,0,J⟩=N a/\W.cell? ⟨g5,1,J⟩=N b/\W.cell? ⟨g5,2,J⟩=N c/\W.cell? ⟨g5,3,J⟩=N d/\W.cell? ⟨g5,4,J⟩=N e/\W.cell? ⟨g5,5,J⟩=N f
theorem Nn.heap{g5:Nat}{a b c e:ak}(h:Nn n0 g6 kv g5 a b c d e f W)(hk:∀q,q<n0->q=g5\/q=g6->W'.heap[q]?=W.heap[q]?)(hs:n0<=W'.heap.size)(h6:g6<n0)(h5:g5<n0):Nn n0 g6 kv g5 a b c d e f W':=by obtain⟨_,h1,h2,h3,h4,h5',h6',h7⟩:=h;have e6:=hk g6 h6 (.inr rfl);have e5:=hk g5 h5 (.inl rfl);have c6:∀i,W'.cell? ⟨g6,i,J⟩=W.cell? ⟨g6,i,J⟩:=λi=>He e6;have c5:∀i,W'.cell? ⟨g5,i,J⟩=W.cell? ⟨g5,i,J⟩:=λi=>He e5;exact⟨hs,(c6 1).trans h1,(c5 0).trans h2,(c5 1).trans h3,(c5 2).trans h4,(c5 3).trans h5',(c5 4).trans h6',(c5 5).trans h7⟩
theorem Nn.but{g5:Nat}{a b c e:ak}(h:Nn n0 g6 kv g5 a b c d e f W)(hb:But g W W')(h6:g6<n0/\g6≠g)(h5:g5<n0/\g5≠g)(hx:n0<=n0):Nn n0 g6 kv g5 a b c d e f W':=h.heap (λq hq hqq=>hb.block q Y3 yj) (by have:=h.1;have:=hb.size;omega) h6.1 h5.1
section
variable{w:Y}{g B:Nat}{Al:Option aK}{nl cl:Nat}{ts:List Tok}{e:Int}{k:Nat}{bad:Bool}
theorem jP.aps{b1:Bool}(h:jP n (.bG 5) ts k X x k1 b1)(hf:Bz 4 (pk ts k1 b1)=J):jP (n+1) (.bG 4) ts k X x k1 b1:=by
 obtain⟨h1,h2,h3⟩:=h;refine⟨h1,λq=>?_,λq=>?_⟩;·obtain⟨a,b,c⟩:=h2 q;subst q;refine⟨rfl,b,?_⟩;rw[ack,c];simp only[bZ];rw[Vv,<-Vu,hf];rfl
 rcases h3 q with a|a;·cases a
 exact .inr (by rw[ack,a];rfl)
theorem jP.apt{y:Ex}{o}(h:jP n (.bG 5) ts k X x k1 X)(hf:Bz 4 (pk ts k1 X)=N o)(h2:jP n (.bG 5) ts (k1+1) X y k2 b2):jP (n+1) (.bG 4) ts k X (.bi (hk o.2.1) x y) k2 b2:=by
 obtain⟨_,h3,_⟩:=h;obtain⟨_,iV,hx⟩:=h3 rfl;obtain⟨g1,g2,g3⟩:=h2;have e:pE (n+1) (.bG 4) ((aZ ts).drop k)=(pE n (.bG 5) ((aZ ts).drop (k1+1))).map λq'=>(.bi (hk o.2.1) x q'.1,q'.2):=by rw[ack,hx];simp only[bZ];rw[Vv,<-Vu,hf,Ai];rfl
 refine⟨I,λq=>?_,λq=>?_⟩;·obtain⟨a,b,c⟩:=g2 q;exact⟨rfl,I,by rw[e,c];rfl⟩
 rcases g3 q with a|a;·cases a
 exact .inr (by rw[e,a];rfl)
theorem apu(h:Ps w g B Al nl cl ts e k X)(n r:Nat)(hM:nl-k<=r)(hF:20*(nl-k)+12<=n+1)(H:tN n w g B Al nl cl ts e r):aF aa 204 #[aQ (N ⟨g,0,J⟩),C D 4] w (qi (n+1) (.bG 4) w g B Al nl cl ts e k X):=by
 have aP:=G ((aN w.heap.size w).alloc (aC _) (ag #[C D 0,C D 0,C D 0,C D 0,au ⟨#[]⟩,O J 0 0] 128));have jL:=G (ai.new w 128 #[C D 0,C D 0,C D 0,C D 0,au ⟨#[]⟩,O J 0 0]);have iJ:=G (h.go aP.E);have aO:=h.lt;obtain⟨_,_,_,c3⟩:=iJ.E.cells;have lX:=G (H.1 5 _ k X I hM I iJ.E);rw[show((5:Nat):Int)=5 from rfl] at lX;have HH:=G H;have dA:=h.hk;clear h H;go_enter func204,ntmps204;go_wp2_with fail;refine lX.E.mono ?_;rintro e' w1 ⟨x,kd,vl,fr,az,nm,A,na,ca,k1,b1,hx,rfl,hv,hp,hb,kM⟩;have aM:=G ((But.of (g:=g) aP.E).tr hb);have ku:=G (jL.E.but hb I);have ed:w.heap.size<w1.heap.size:=aff;have jw:=G ((aN w1.heap.size w1).alloc (aC _) (ag #[C D kd,C D vl,C D fr,C D az,au ⟨nm.toArray⟩,O A na ca] 128));have HX:=G (ai.new w1 128 #[C D kd,C D vl,C D fr,C D az,au ⟨nm.toArray⟩,O A na ca]);have jU:=G hp;have BA:=G (bI hv (bI hx kM));have kN:=G (acj (hp.go jw.E) 4);rw[show((4:Nat):Int)=4 from rfl] at kN;clear hv hp hb kM hx lX jL iJ;have Np:af (∀o,Bz 4 (pk ts k1 b1)=N o->b1=X):=λo ho=>by
  cases b1;·rfl
  rw[acd,ZB] at ho;cases ho
 cases rG:Bz 4 (pk ts k1 b1) with
 |none=>have Aj:=G (BA.E.2.2.aps rG);rw[rG] at kN;unfold Vt at kN;simp only[] at kN;clear rG Np;go_wp2_with fail;refine kN.E.mono ?_;rintro e' wf ⟨rfl,qy⟩;have Vx:=G (HX.E.below qy aG);have H8:=G ((ku.E.alloc (ag #[C D kd,C D vl,C D fr,C D az,au ⟨nm.toArray⟩,O A na ca] 128)).below qy bB);have hsf:w1.heap.size<wf.heap.size:=afd;have zn:=G (aU jw.E qy);obtain⟨x0,x1,x2,x3,x4,x5⟩:=gW (Vx.E.alloc (ag #[au ⟨#[]⟩,C D 0,C D 0] 273));obtain⟨y0,y1,y2,y3,y4,y5⟩:=gW (H8.E.alloc (ag #[au ⟨#[]⟩,C D 0,C D 0] 273));have iB:=(H8.E.alloc (ag #[au ⟨#[]⟩,C D 0,C D 0] 273)).frozen;clear qy kN;go_wp2_with fail;obtain⟨hv,hx,-⟩:=BA.E;refine eX (Nl (vw (by exact H8.E.alloc _)) rfl) rfl ⟨x,kd,vl,fr,az,nm,A,na,ca,k1,b1,hx,rfl,?_,((jU.E.go zn.E).go ((aN _ _).alloc (aC _) _)).heap (λq hq=>ky q I),vz ((aM.E.nM zn.E).alloc _) (aC _),Aj.E⟩;exact hv.keep (λq hq=>(ky q Rj).trans ((nK _ _ q uu).trans (zn.E.block q hq.2))) (λq hq=>⟨Rj,OT⟩)
 |some o=>
  have aB:=Np.E o rG;subst aB;have HOS:=G rG;obtain⟨hv,hx,kM⟩:=BA.E;have wH:k<k1:=(kM.2.1 rfl).2.1;have Vy:k1<nl:=by
   rcases jl k1 nl with h1|h1;·exact h1
   rw[JE (by have:=jU.E.len;omega),ZB] at rG;cases rG
  rw[rG] at kN;unfold Vt at kN;simp only[] at kN;clear rG Np hv hx kM;obtain⟨BF,tO,BG⟩:=o;unfold FU at kN;simp only[] at kN;go_wp2_with fail;refine kN.E.mono ?_;rintro e' wf ⟨rfl,qy⟩;have Vx:=G (HX.E.below qy aG);have H8:=G ((ku.E.alloc (ag #[C D kd,C D vl,C D fr,C D az,au ⟨nm.toArray⟩,O A na ca] 128)).below qy bB);have hsf:w1.heap.size<wf.heap.size:=afd;have zn:=G (aU jw.E qy);have Pv:=G (jU.E.go zn.E);have ZC:=G (ai.new wf 273 #[au ⟨BF.toArray⟩,C D tO,C D (BG:Nat)]);have qP:=G (Pv.E.go ((aN _ _).alloc (aC _) (ag #[au ⟨BF.toArray⟩,C D tO,C D (BG:Nat)] 273)));obtain⟨p0,p1,p2,p3⟩:=qP.E.cells;have hpf:=qP.E.blk.frozen;obtain⟨q0,q1,q2,q3⟩:=Pv.E.cells;have hqf:=Pv.E.blk.frozen;have Vz:k1<9000:=by have:=jU.E.hn;omega
  have HN:=qP.E.JF Vy;have Pz:=G HN.1;have oq:=G (((aM.E.nM zn.E).alloc (ag #[au ⟨BF.toArray⟩,C D tO,C D (BG:Nat)] 273)).tr HN.2);have JG:=G ((Vx.E.alloc (ag #[au ⟨BF.toArray⟩,C D tO,C D (BG:Nat)] 273)).but HN.2 I);have ZE:=G ((H8.E.alloc (ag #[au ⟨BF.toArray⟩,C D tO,C D (BG:Nat)] 273)).but HN.2 I);have HOZ:=G (ZC.E.but HN.2 I);have HAZ:af (eU ((wf.alloc (ag #[au ⟨BF.toArray⟩,C D tO,C D (BG:Nat)] 273)).setCell ⟨g,2,J⟩ (C D ((k1:Int)+1))) (λq=>w.heap.size<q/\q<w1.heap.size) x (O A na ca)):=BA.E.1.keep (λq hq=>(HN.2.block q Rm (by have:=hq.1;simp only[aW] at this;intro e;injection e;omega)).trans ((nK _ _ q uu).trans (zn.E.block q hq.2))) (λq hq=>⟨Rj,hq.2⟩);have bV:wf.heap.size<((wf.alloc (ag #[au ⟨BF.toArray⟩,C D tO,C D (BG:Nat)] 273)).setCell ⟨g,2,J⟩ (C D ((k1:Int)+1))).heap.size:=aG;clear qy kN jw HN;go_upto_region 15 with fail;clear p0 p1 p2 p3 hpf q0 q1 q2 q3 hqf;generalize Bp (wf.alloc _) _ _=wz at*;have HC:=G (HH.E.1 5 wz.drew (k1+1) X I I I (Pz.E.go (qH (aN _ _))));rw[show((5:Nat):Int)=5 from rfl] at HC;have HS:af (Nn wz.heap.size wf.heap.size (C D tO) w1.heap.size (C D kd) (C D vl) (C D fr) (C D az) (au ⟨nm.toArray⟩) (O A na ca) wz.drew):=⟨aC _,HOZ.E.cell 1,JG.E.cell 0,JG.E.cell 1,JG.E.cell 2,JG.E.cell 3,JG.E.cell 4,JG.E.cell 5⟩;have h66:wf.heap.size<wz.heap.size/\wf.heap.size≠g:=⟨I,I⟩;have h55:w1.heap.size<wz.heap.size/\w1.heap.size≠g:=⟨I,I⟩;refine iA (S:=Nn wz.heap.size wf.heap.size (C D tO) w1.heap.size (C D kd) (C D vl) (C D fr) (C D az) (au ⟨nm.toArray⟩) (O A na ca)) dh HS.E (λbg=>?_);refine aA 0 ?_;refine aA 1 ?_;refine aA 2 ?_;refine aA 3 ?_;refine bK 4 (λK hK=>?_);go_simp;refine HC.E.mono ?_;rintro e' w2 ⟨y,ou,lN,lQ,gQ,fQ,A2,wJ,wK,k2,b2,hy,rfl,o8,fH,aJ,tQ⟩;dsimp only
  refine bF hK (by exact bg.but aJ h66 h55 (aC _)) (λapv=>?_);clear hK K;have fw:wz.heap.size<=w2.heap.size:=aJ.size;have jy:=G (ai.but (k:=w.heap.size) ZE.E.drew aJ I);refine bK 5 (λK hK=>?_);go_simp;refine bF hK (by exact apv.heap (λq hq _=>nK _ _ q I) bB I I) (λapw=>?_);clear hK K;refine aA 6 ?_;refine bK 7 (λK hK=>?_);obtain⟨z0,z1,z2,z3,z4,z5⟩:=gW (jy.E.alloc (ag #[C D kd,C D vl,C D fr,C D az,au ⟨nm.toArray⟩,O A na ca,C D ou,C D lN,C D lQ,C D gQ,au ⟨fQ.toArray⟩,O A2 wJ wK] 128));have D7:=(jy.E.alloc (ag #[C D kd,C D vl,C D fr,C D az,au ⟨nm.toArray⟩,O A na ca,C D ou,C D lN,C D lQ,C D gQ,au ⟨fQ.toArray⟩,O A2 wJ wK] 128)).frozen;go_simp;refine bF hK (by exact apw.heap (λq hq hqq=>ky q (by rcases hqq with rfl|rfl<;>omega)) MH I I) (λaCD=>?_);clear hK K;refine gI ?_;have kW:=G (bI o8 (bI fH (bI aJ (bI tQ hy))));clear o8 fH aJ tQ hy;go_wp2_with fail;obtain⟨o8,fH,aJ,tQ,hy⟩:=kW.E;obtain⟨_,hx,kM⟩:=BA.E;have VA:But g wz w2:=(But.of (qH (aN _ _))).tr aJ;refine eX (Nl (vw (by exact jy.E.alloc _)) rfl) rfl ⟨.bi (hk tO) x y,tO,0,0,0,[],N ⟨w2.heap.size,0,J⟩,2,2,k2,b2,rfl,rfl,⟨w2.heap.size,O A na ca,O A2 wJ wK,rfl,⟨I,MH⟩,?_,?_,?_⟩,(fH.go ((aN _ _).alloc (aC _) _)).heap (λq hq=>ky q I),vz ((oq.E.tr VA).alloc _) (aC _),kM.apt HOS.E tQ⟩;·rw[hx,hy];exact KX (ai.new w2 _ _) I
  ·exact HAZ.E.keep (λq hq=>(ky q qO).trans ((nK _ _ q uu).trans (VA.block q uu zU))) (λq hq=>⟨qO,OT⟩)
  exact o8.keep (λq hq=>(ky q UQ).trans (nK _ _ q hq.2)) (λq hq=>⟨UQ,OT⟩)
end
theorem agH{a b c e:ak}(h:ai w q 128 #[a,b,c,d,e,f])(h0:tmps.getD 4 undef=aQ q):(results f248 tmps).run aa w= .ok (aD #[a,b,c,d,e,f]) w:=results_cell_row results248 tmps w q 128 #[a,b,c,d,e,f] (0,0) _ h0 h underlying128 rfl dh
theorem agI(n l:Nat)(ts:List Tk):pE (n+1) (.bin l) ts=(pE n (.bG (l+1)) ts).bind λq=>pE n (.loop l q.1) q.2:=by simp only[pE]
theorem apx{l:Nat}{ts:List Tk}(h1:¬(l=6/\bN ts=mM))(h2:xB l ts=J):pE (n+1) (.loop l x) ts=N (x,ts):=by simp only[pE];rw[if_neg h1,h2]
theorem apy{l:Nat}{ts:List Tk}(h1:¬(l=6/\bN ts=mM))(h2:xB l ts=N kd):pE (n+1) (.loop l x) ts=(pE n (.bG (l+1)) ts.tail).bind λq=>pE n (.loop l (.bi (hk kd) x q.1)) q.2:=by simp only[pE];rw[if_neg h1,h2]
theorem apz{ts:List Tk}(h1:bN ts=mM):pE (n+1) (.loop 6 x) ts=(tH 1 1000000000000 ts.tail).bind λv=>pE n (.loop 6 (.un ⟨20,v.1,0,0,[]⟩ x)) v.2:=by simp only[pE];rw[if_pos ⟨trivial,h1⟩]
theorem PD:((kL ts lo hi k bad).2.2=X->bad=X/\(kL ts lo hi k bad).2.1=k+1/\tH lo hi ((aZ ts).drop k)=N ((kL ts lo hi k bad).1,(aZ ts).drop (k+1)))/\((kL ts lo hi k bad).2.2=Z->bad=Z\/tH lo hi ((aZ ts).drop k)=J):=by
 unfold kL;by_cases h0:pk ts k bad= []
 ·rw[if_pos h0];refine⟨λq=>yn,λ_=>?_⟩;cases bad
  ·rcases jl k ts.length with h1|h1
   ·right;rw[Pp h1];have:(ts.getD k ⟨0,[],0⟩).text= []:=by rw[<-Nj h1];exact h0
    simp only[tH,this];rw[if_neg (by rintro⟨_,q,_⟩;simp[CG,isNum] at q)]
   right;have:(aZ ts).drop k= []:=JC.2 (by simpa[aZ] using h1);rw[this];rfl
  exact .inl rfl
 rw[if_neg h0];obtain⟨hb,hl⟩:=R8 h0;subst hb;rw[Pp hl];generalize ts.getD k ⟨0,[],0⟩=t;by_cases h1:vB t.kind t.text=Z/\lo<=vN t.kind t.text/\vN t.kind t.text<=hi
 ·rw[if_pos h1];refine⟨λ_=>⟨rfl,rfl,?_⟩,λq=>yn⟩;obtain⟨a,b,c⟩:=h1;have hn:vN t.kind t.text=(p9 t.text:Int):=by unfold vN;rw[if_pos a]
  unfold vB at a;simp only[bq,beq_iff_eq] at a;simp only[tH];rw[hn] at b c |-;rw[if_pos ⟨a.1,a.2,b,c⟩]
 rw[if_neg h1];refine⟨λq=>yn,λ_=> .inr ?_⟩;simp only[tH];rw[if_neg];rintro⟨a,b,c,d⟩;have a':vB t.kind t.text=Z:=by unfold vB;rw[a,b];rfl
 have hn:vN t.kind t.text=(p9 t.text:Int):=by unfold vN;rw[if_pos a']
 exact h1 ⟨a',by rw[hn];exact c,by rw[hn];exact d⟩
theorem Nq:k<=(kL ts lo hi k bad).2.1:=by
 unfold kL;split;·exact aC _
 split;·exact Nat.le_succ _
 exact aC _
def Am(n l:Nat)(ts:List Tok)(k:Nat)(x:Ex)(k':Nat)(b':Bool):Prop:=
 (b'=X->∃m,m<=n/\20*(ts.length-k')+20<=m/\k<k'/\pE (n+1) (.bin l) ((aZ ts).drop k)=pE m (.loop l x) ((aZ ts).drop k'))/\(b'=Z->pE (n+1) (.bin l) ((aZ ts).drop k)=J)
section
variable{w:Y}{g B:Nat}{Al:Option aK}{nl cl:Nat}{ts:List Tok}{e:Int}{k:Nat}{bad:Bool}
theorem Am.first{l:Nat}{b':Bool}(h:jP n (.bG (l+1)) ts k X x k' b')(hf:20*(ts.length-k)+3<=n+1)(hk:k'<=ts.length):Am n l ts k x k' b':=by
 obtain⟨_,h2,h3⟩:=h;refine⟨λq=>?_,λq=>?_⟩;·obtain⟨a,b,c⟩:=h2 q;exact⟨n,aC _,I,b,by rw[agI,c];rfl⟩
 rcases h3 q with a|a;·cases a
 rw[agI,a];rfl
theorem Am.stop{l:Nat}(h:Am n l ts k x k' X)(h1:¬(l=6/\pk ts k' X=mM))(h2:Bz l (pk ts k' X)=J):jP (n+1) (.bin l) ts k X x k' X:=by
 obtain⟨m,H9,xG,hk,he⟩:=h.1 rfl;cases m with
 |zero=>omega
 |succ m=>refine⟨I,λ_=>⟨rfl,hk,?_⟩,λq=>yn⟩;rw[he];exact apx h1 (by rw[Vv,<-Vu,h2];rfl)
theorem Am.acm{l:Nat}(h:Am n l ts k x k' Z)(hk:k<=k'):jP (n+1) (.bin l) ts k X x k' Z:=⟨hk,λq=>yn,λ_=> .inr (h.2 rfl)⟩
theorem Am.per(h:Am n 6 ts k x k' X)(hp:pk ts k' X=mM)(hl:k'<ts.length):Am n 6 ts k (.un ⟨20,(kL ts 1 1000000000000 (k'+1) X).1,0,0,[]⟩ x) (kL ts 1 1000000000000 (k'+1) X).2.1 (kL ts 1 1000000000000 (k'+1) X).2.2:=by
 obtain⟨m,H9,xG,hk,he⟩:=h.1 rfl;obtain⟨g1,g2⟩:=PD (ts:=ts) (lo:=1) (hi:=1000000000000) (k:=k'+1) (bad:=X);cases m with
 |zero=>omega
 |succ m=>
  rw[apz (by rw[<-Vu];exact hp),Ai] at he;refine⟨λq=>?_,λq=>?_⟩;·obtain⟨a,b,c⟩:=g1 q;rw[c] at he;rw[b];exact⟨m,I,I,I,he⟩
  rcases g2 q with a|a;·cases a
  rw[he,a];rfl
theorem Am.op{l:Nat}{y:Ex}{o:List UInt8 × Int × Nat}{m:Nat}(H9:m+1<=n)(xG:20*(ts.length-k')+20<=m+1)(iV:k<k')(he:pE (n+1) (.bin l) ((aZ ts).drop k)=pE (m+1) (.loop l x) ((aZ ts).drop k'))(h1:¬(l=6/\pk ts k' X=mM))(hf:Bz l (pk ts k' X)=N o)(hl:k'<ts.length)(h2:jP m (.bG (l+1)) ts (k'+1) X y k2 b2)(qF:k2<=ts.length):Am n l ts k (.bi (hk o.2.1) x y) k2 b2:=by
 obtain⟨g1,g2,g3⟩:=h2;rw[apy h1 (kd:=o.2.1) (by rw[Vv,<-Vu,hf];rfl),Ai] at he;refine⟨λq=>?_,λq=>?_⟩;·obtain⟨a,b,c⟩:=g2 q;rw[c] at he;exact⟨m,I,I,I,he⟩
 rcases g3 q with a|a;·cases a
 rw[he,a];rfl
def Nr(n0 g6:Nat)(kv:ak)(W:Y):Prop:=n0<=W.heap.size/\W.cell? ⟨g6,1,J⟩=N kv
theorem Nr.heap(h:Nr n0 g6 kv W)(hk:∀q,q=g6->W'.heap[q]?=W.heap[q]?)(hs:n0<=W'.heap.size)(h6:g6<n0):Nr n0 g6 kv W':=⟨hs,(He (hk g6 rfl)).trans h.2⟩
theorem Nr.but(h:Nr n0 g6 kv W)(hb:But g W W')(h6:g6<n0)(hg:g6≠g):Nr n0 g6 kv W':=h.heap (λq hq=>by subst hq;exact hb.block _ Y3 abC) (by have:=h.1;have:=hb.size;omega) h6
end
section
variable{w:Y}{g B:Nat}{Al:Option aK}{nl cl:Nat}{ts:List Tok}{e:Int}{k:Nat}{bad:Bool}
theorem agJ(h:R:=by have Aj:=G (JH.E.2.1.stop (λq=>by first|exact VB.E q.2|exact VB.E q.1) rG);rw[rG] at kN;unfold Vt at kN;simp only[] at kN;clear rG;go_wp2_with fail;refine kN.E.mono ?_;rintro e' wf ⟨rfl,qy⟩;have hss:=qy.size;have Vx:=G ((CQ.E.below qy I).alloc (ag #[au ⟨#[]⟩,C D 0,C D 0] 273));have H8:=G ((wI.E.below qy I).alloc (ag #[au ⟨#[]⟩,C D 0,C D 0] 273));have zn:=G (qy.alloc (ja hss (aC _)) (ag #[au ⟨#[]⟩,C D 0,C D 0] 273));obtain⟨xx0,xx1,xx2,xx3,xx4,xx5⟩:=gW Vx.E;obtain⟨yy0,yy1,yy2,yy3,yy4,yy5⟩:=gW H8.E;have hfw:=H8.E.frozen;clear qy kN;go_wp2_with fail;obtain⟨hA,uJ,hx⟩:=JH.E;refine eX (agH (vw (by exact H8.E)) rfl) rfl ⟨x,kd,vl,fr,az,nm,A,na,ca,k',X,hx,rfl,?_,(D8.E.go zn.E).heap (λq hq=>ky q I),vz (PE.E.nM zn.E) (aC _),Aj.E⟩;exact hA.keep (λq hq=>(ky q qO).trans (zn.E.block q hq.2.1)) (λq hq=>⟨qO,afa⟩)):R:=h
theorem agK(h:R:=by
  clear hK K;refine gI ?_;have kW:=G (bI o8 (bI fH (bI aJ (bI tQ hy))));clear o8 fH aJ tQ hy z0 z1 z2 z3 z4 z5 D7;go_wp2_with fail;obtain⟨o8,fH,aJ,tQ,hy⟩:=kW.E;obtain⟨hA,uJ,hx⟩:=JH.E;have VA:But g wz w2:=(But.of (qH (aN _ _))).tr aJ;have agL:=Am.op H9 (by rw[gH.E];exact xG) hkm Sc.E (λq=>by first|exact VB.E q.2|exact VB.E q.1) HOS.E (by rw[gH.E];exact Vy) tQ (by rw[gH.E];exact fH.hk);rw[<-xH.E] at agL;have hle2:=tQ.1;have ZF:=fH.hk;have JI:b2=X->k'+1<k2:=λq=>(tQ.2.1 q).2.1;go_roundg (if b2 then 0 else nl-k2+1);case measure=>(cases b2<;>simp<;>first|omega|(have:=JI rfl;omega))
  case rel=>
   refine⟨.bi (hk tO) x y,tO,0,0,0,[],N ⟨w2.heap.size,0,J⟩,2,2,k2,b2,rfl,vw (by exact eu.E.alloc _),⟨w2.heap.size,O A na ca,O A2 wJ wK,rfl,⟨I,MH,I⟩,?_,?_,?_⟩,(fH.go ((aN _ _).alloc (aC _) _)).heap (λq hq=>ky q I),vz ((oq.E.tr VA).alloc _) I,KX (jy.E.alloc _) I,rfl,I,MH,agL⟩;·rw[hx,hy];exact KX (ai.new w2 _ _) I
   ·exact HAZ.E.keep (λq hq=>(ky q hq.2.2).trans ((nK _ _ q MQ).trans (VA.block q MQ zU))) (λq hq=>⟨hq.1,afa,hq.2.2⟩)
   ·exact o8.keep (λq hq=>(ky q UQ).trans (nK _ _ q hq.2)) (λq hq=>⟨UQ,OT,UQ⟩)):R:=h
theorem agM(h:R:=by
  have HOS:=G rG;have Vy:k'<nl:=by
   rcases jl k' nl with h1|h1;·exact h1
   ·rw[JE abK,ZB] at rG;cases rG
  rw[rG] at kN;unfold Vt at kN;simp only[] at kN;clear rG;obtain⟨BF,tO,BG⟩:=o;unfold FU at kN;simp only[] at kN;go_wp2_with fail;refine kN.E.mono ?_;rintro e' wf ⟨rfl,qy⟩;have hss:=qy.size;have zn:=G qy;have qP:=G (D8.E.go (qy.alloc (ja hss (aC _)) (ag #[au ⟨BF.toArray⟩,C D tO,C D (BG:Nat)] 273)));obtain⟨p0,p1,p2,p3⟩:=qP.E.cells;have hpf:=qP.E.blk.frozen;obtain⟨q0,q1,q2,q3⟩:=(D8.E.go qy).cells;have hqf:=(D8.E.go qy).blk.frozen;have Vz:k'<9000:=I;have HN:=qP.E.JF Vy;have Pz:=G HN.1;have oq:=G (((PE.E.nM qy).alloc (ag #[au ⟨BF.toArray⟩,C D tO,C D (BG:Nat)] 273)).tr HN.2);have JG:=G (((CQ.E.below qy I).alloc (ag #[au ⟨BF.toArray⟩,C D tO,C D (BG:Nat)] 273)).but HN.2 I);have ZE:=G (((wI.E.below qy I).alloc (ag #[au ⟨BF.toArray⟩,C D tO,C D (BG:Nat)] 273)).but HN.2 I);have HOZ:=G ((ai.new wf 273 #[au ⟨BF.toArray⟩,C D tO,C D (BG:Nat)]).but HN.2 I);have HAZ:af (eU ((wf.alloc (ag #[au ⟨BF.toArray⟩,C D tO,C D (BG:Nat)] 273)).setCell ⟨g,2,J⟩ (C D ((k':Int)+1))) (λq=>w.heap.size<q/\q<wt.heap.size/\q≠w1.heap.size) x (O A na ca)):=JH.E.1.keep (λq hq=>(HN.2.block q (by have:=hq.2.1;simp only[aW];omega) zU).trans ((nK _ _ q MQ).trans (zn.E.block q hq.2.1))) (λq hq=>hq);have bV:wf.heap.size<((wf.alloc (ag #[au ⟨BF.toArray⟩,C D tO,C D (BG:Nat)] 273)).setCell ⟨g,2,J⟩ (C D ((k':Int)+1))).heap.size:=aG;obtain⟨m,H9,xG,hkm,hem⟩:=JH.E.2.1.1 rfl;rw[gH.E] at xG;obtain⟨m,rfl⟩:∃m',m=m'+1:=⟨m-1,I⟩;have Sc:=G hem;clear qy kN HN hem;go_upto_region 8 with fail;clear p0 p1 p2 p3 hpf q0 q1 q2 q3 hqf c0 c1 c2 c3 x0 x1 x2 x3 x4 x5 y0 y1 y2 y3 y4 y5 iB tT;generalize Bp (wf.alloc _) _ _=wz at*;have HC:=G (λW (hW:But g wz W) (hP:Ps W g B Al nl cl ts e (k'+1) X)=>Au.E m I I W hP);have HS:af (Nr wz.heap.size wf.heap.size (C D tO) wz.drew):=⟨aC _,HOZ.E.cell 1⟩;refine iA (S:=Nr wz.heap.size wf.heap.size (C D tO)) dh HS.E (λbg=>?_);refine aA 0 ?_;refine aA 1 ?_;refine aA 3 ?_;refine aA 4 ?_;refine aA 5 ?_;refine uF 2 6 (λK hK=>?_) (λK hK=>?_)
  ·obtain⟨l0,l1,l2,l3,l4,l5⟩:=gW JG.E;go_simp;refine bF hK (by exact bg) (λapA=>?_);clear hK K l0 l1 l2 l3 l4 l5;refine bK 6 (λK hK=>?_);go_simp;refine(HC.E wz.drew (But.of (qH (aN _ _))) (Pz.E.go (qH (aN _ _)))).mono ?_;rintro e' w2 ⟨y,ou,lN,lQ,gQ,fQ,A2,wJ,wK,k2,b2,hy,rfl,o8,fH,aJ,tQ⟩;dsimp only
   refine bF hK (by exact apA.but aJ I I) (λapB=>?_);clear hK K;have fw:wz.heap.size<=w2.heap.size:=aJ.size;have jy:=G (ai.but (k:=w.heap.size) ZE.E.drew aJ I);have eu:=G (ai.but (k:=w1.heap.size) JG.E.drew aJ I);refine bK 7 (λK hK=>?_);go_simp;refine bF hK (by exact apB.heap (λq hq=>nK _ _ q I) bB I) (λapC=>?_);clear hK K;refine aA 8 ?_;refine bK 9 (λK hK=>?_);obtain⟨z0,z1,z2,z3,z4,z5⟩:=gW (eu.E.alloc (ag #[C D kd,C D vl,C D fr,C D az,au ⟨nm.toArray⟩,O A na ca,C D ou,C D lN,C D lQ,C D gQ,au ⟨fQ.toArray⟩,O A2 wJ wK] 128));have D7:=(eu.E.alloc (ag #[C D kd,C D vl,C D fr,C D az,au ⟨nm.toArray⟩,O A na ca,C D ou,C D lN,C D lQ,C D gQ,au ⟨fQ.toArray⟩,O A2 wJ wK] 128)).frozen;go_simp;refine bF hK (by exact apC.heap (λq hq=>ky q I) MH I) (λaCE=>?_);exact agK
  ·go_simp;refine(HC.E wz.drew (But.of (qH (aN _ _))) (Pz.E.go (qH (aN _ _)))).mono ?_;rintro e' w2 ⟨y,ou,lN,lQ,gQ,fQ,A2,wJ,wK,k2,b2,hy,rfl,o8,fH,aJ,tQ⟩;dsimp only
   refine bF hK (by exact bg.but aJ I I) (λapD=>?_);clear hK K;have fw:wz.heap.size<=w2.heap.size:=aJ.size;have jy:=G (ai.but (k:=w.heap.size) ZE.E.drew aJ I);have eu:=G (ai.but (k:=w1.heap.size) JG.E.drew aJ I);refine bK 2 (λK hK=>?_);obtain⟨l0,l1,l2,l3,l4,l5⟩:=gW eu.E;go_simp;refine bF hK (by exact apD) (λapE=>?_);clear hK K l0 l1 l2 l3 l4 l5;refine bK 7 (λK hK=>?_);go_simp;refine bF hK (by exact apE.heap (λq hq=>nK _ _ q I) bB I) (λapF=>?_);clear hK K;refine aA 8 ?_;refine bK 9 (λK hK=>?_);obtain⟨z0,z1,z2,z3,z4,z5⟩:=gW (eu.E.alloc (ag #[C D kd,C D vl,C D fr,C D az,au ⟨nm.toArray⟩,O A na ca,C D ou,C D lN,C D lQ,C D gQ,au ⟨fQ.toArray⟩,O A2 wJ wK] 128));have D7:=(eu.E.alloc (ag #[C D kd,C D vl,C D fr,C D az,au ⟨nm.toArray⟩,O A na ca,C D ou,C D lN,C D lQ,C D gQ,au ⟨fQ.toArray⟩,O A2 wJ wK] 128)).frozen;go_simp;refine bF hK (by exact apF.heap (λq hq=>ky q I) MH I) (λaCF=>?_);exact agK):R:=h
theorem agN(h:R:=by
  (try clear agO);(try simp only[G7] at ze);go_wp2_with fail;have ZF:=zq.E.hk;have JI:b2=X->k2=k'+2:=λq=>(KY.E q).2.1;go_roundg (if b2 then 0 else nl-k2+1);case measure=>(cases b2<;>simp<;>first|omega|(have:=JI rfl;omega))
  case rel=>
   refine⟨.un ⟨20,nv,0,0,[]⟩ x,20,nv,0,0,[],N ⟨wn.heap.size,0,J⟩,1,1,k2,b2,rfl,vw (by exact(CR.E.alloc (ag #[C D kd,C D vl,C D fr,C D az,au ⟨nm.toArray⟩,O A na ca] 128))),⟨wn.heap.size,O A na ca,rfl,⟨I,YA,I⟩,?_,?_⟩,((zq.E.go ((aN _ _).alloc (aC _) _))).heap (λq hq=>ky q I),vz (uI.E.alloc _) I,KX (jQ.E.alloc _) I,rfl,?_,YA,vZ.E⟩;·rw[HXH.E];exact KX (ai.new wn _ _) I
   ·exact ZG.E.keep (λq hq=>(ky q hq.2.2).trans (nK _ _ q MQ)) (λq hq=>⟨hq.1,ae9,hq.2.2⟩)
   ·have:=xI.E;omega):R:=h
theorem bF6(k:True)(h:R:=by
  have HT:=G (Nk yB.E mM aL);cases iE:(pk ts k' X==mM);case false=>
   have Nh:¬pk ts k' X=mM:=beq_eq_false_iff_ne.1 iE;have VB:=G Nh;rw[iE] at HT;simp only[lK,if_false] at HT;clear iE Nh;go_wp2_with fail;refine HT.E.mono ?_;rintro e' wt ⟨rfl,lM,gD⟩;have fP:=gD.size;have D8:=G lM;have PE:=G (H6.E.tr gD);have CQ:=G (HX.E.but gD I);have wI:=G (HR.E.but gD I);have JH:af (eU wt (λq=>w.heap.size<q/\q<wt.heap.size/\q≠w1.heap.size) x (O A na ca)/\Am n 6 ts k x k' X/\x.hd=⟨kd,vl,fr,az,nm⟩):=⟨kX.E.1.keep (λq hq=>gD.block q hq.2.1 zU) (λq hq=>⟨hq.1,MQ,hq.2.2⟩),kX.E.2⟩;clear lM gD HT;have kN:=G (acj D8.E 6);rw[show((6:Nat):Int)=6 from rfl] at kN;have vC:=D8.E.lt;have Au:=G (λm (hm:m<=n) (h1:20*(nl-(k'+1))+2*(8-(6+1))+4<=m) W (hP:Ps W g B Al nl cl ts e (k'+1) X)=>(HH.E m hm).1 (6+1) W (k'+1) X I I h1 hP);simp only[show((6+1:Nat):Int)=7 from rfl] at Au;cases rG:Bz 6 (pk ts k' X) with
   |none=>exact agJ
   |some o=>exact agM
  case true=>
   have vC:k'<nl:=by
    rcases jl k' nl with h1|h1;·exact h1
    ·rw[JE abK,beq_iff_eq] at iE;exact absurd iE aL
   have agP:pk ts k' X=mM:=by rw[beq_iff_eq] at iE;exact iE
   have vZ:=G (kX.E.2.1.per agP (by rw[gH.E];exact vC));rw[<-xH.E] at vZ;have KY:=G (PD (ts:=ts) (lo:=1) (hi:=1000000000000) (k:=k'+1) (bad:=X)).1;have xI:=G (Nq (ts:=ts) (lo:=1) (hi:=1000000000000) (k:=k'+1) (bad:=X));rw[iE] at HT;simp only[if_true] at HT;clear iE agP;go_wp2_with fail;refine HT.E.mono ?_;rintro e' wt ⟨rfl,lM,gD⟩;have fP:=gD.size;have D8:=G lM;have PE:=G (H6.E.tr gD);have CQ:=G (HX.E.but gD I);have wI:=G (HR.E.but gD I);have JH:af (eU wt (λq=>w.heap.size<q/\q<wt.heap.size/\q≠w1.heap.size) x (O A na ca)):=kX.E.1.keep (λq hq=>gD.block q hq.2.1 zU) (λq hq=>⟨hq.1,MQ,hq.2.2⟩);have JJ:af (∀W,Ps W g B Al nl cl ts e (k'+1) X->_):=λW hW=>acg hW 1 1000000000000;generalize kL ts 1 1000000000000 (k'+1) X=q at*;obtain⟨nv,k2,b2⟩:=q;simp only[] at JJ vZ KY xI;have agQ:=kX.E.2.2;have HXH:=G agQ;clear lM gD HT agQ c0 c1 c2 c3 x0 x1 x2 x3 x4 x5 y0 y1 y2 y3 y4 y5 iB tT;go_upto_region 4 with fail;refine iA (S:=λW=>wt.heap.size<=W.heap.size) dh (aC _) (λbg=>?_);refine aA 0 ?_;refine uF 1 2 (λK hK=>?_) (λK hK=>?_)
   ·go_simp;refine(JJ.E _ (D8.E.go (qH (aN _ _)))).mono ?_;rintro e' wn ⟨rfl,ow,gX⟩;dsimp only
    have ze:=gX.size;have zq:=G ow;have uI:=G ((PE.E.nM (qH (aN _ _))).tr gX);have CR:=G (ai.but (k:=w1.heap.size) (CQ.E.drew) gX I);have jQ:=G (ai.but (k:=w.heap.size) (wI.E.drew) gX I);refine bF hK abm (λapG=>?_);clear hK K;have ZG:af (eU wn (λq=>w.heap.size<q/\q<wt.heap.size/\q≠w1.heap.size) x (O A na ca)):=eU.keep (w:=wt) (λq hq=>gX.block q abv zU) (λq hq=>hq) JH.E;refine bK 2 (λK hK=>?_);obtain⟨l0,l1,l2,l3,l4,l5⟩:=gW CR.E;go_simp;refine bF hK (by(try simp only[G7]);omega) (λapH=>?_);clear hK K l0 l1 l2 l3 l4 l5;refine bK 3 (λK hK=>?_);go_simp;refine bF hK abn (λapI=>?_);clear hK K;refine aA 4 ?_;refine bK 5 (λK hK=>?_);obtain⟨z0,z1,z2,z3,z4,z5⟩:=gW (CR.E.alloc (ag #[C D kd,C D vl,C D fr,C D az,au ⟨nm.toArray⟩,O A na ca] 128));have D7:=((CR.E.alloc (ag #[C D kd,C D vl,C D fr,C D az,au ⟨nm.toArray⟩,O A na ca] 128))).frozen;go_simp;refine bF hK abj (λapJ=>?_);clear hK K;refine gI ?_;clear z0 z1 z2 z3 z4 z5 D7 ow gX bg apJ;(try clear apI);(try clear apG);(try clear apH);exact agN
   ·obtain⟨l0,l1,l2,l3,l4,l5⟩:=gW CQ.E.drew;go_simp;refine bF hK (by(try simp only[G7]);omega) (λagO=>?_);clear hK K l0 l1 l2 l3 l4 l5;refine uF 1 3 (λK hK=>?_) (λK hK=>?_)
    ·go_simp;refine(JJ.E _ (D8.E.go (qH (aN _ _)))).mono ?_;rintro e' wn ⟨rfl,ow,gX⟩;dsimp only
     have ze:=gX.size;have zq:=G ow;have uI:=G ((PE.E.nM (qH (aN _ _))).tr gX);have CR:=G (ai.but (k:=w1.heap.size) (CQ.E.drew) gX I);have jQ:=G (ai.but (k:=w.heap.size) (wI.E.drew) gX I);refine bF hK abm (λapK=>?_);clear hK K;have ZG:af (eU wn (λq=>w.heap.size<q/\q<wt.heap.size/\q≠w1.heap.size) x (O A na ca)):=eU.keep (w:=wt) (λq hq=>gX.block q abv zU) (λq hq=>hq) JH.E;refine bK 3 (λK hK=>?_);go_simp;refine bF hK abn (λapL=>?_);clear hK K;refine aA 4 ?_;refine bK 5 (λK hK=>?_);obtain⟨z0,z1,z2,z3,z4,z5⟩:=gW (CR.E.alloc (ag #[C D kd,C D vl,C D fr,C D az,au ⟨nm.toArray⟩,O A na ca] 128));have D7:=((CR.E.alloc (ag #[C D kd,C D vl,C D fr,C D az,au ⟨nm.toArray⟩,O A na ca] 128))).frozen;go_simp;refine bF hK abj (λapM=>?_);clear hK K;refine gI ?_;clear z0 z1 z2 z3 z4 z5 D7 ow gX bg apM;(try clear apL);(try clear apK);(try clear aCG);exact agN
    ·go_simp;refine bF hK abn (λapN=>?_);clear hK K;refine bK 1 (λK hK=>?_);go_simp;refine(JJ.E _ (D8.E.go ((qH (aN _ _)).alloc (aC _) (ag #[C D kd,C D vl,C D fr,C D az,au ⟨nm.toArray⟩,O A na ca] 128)))).mono ?_;rintro e' wn ⟨rfl,ow,gX⟩;dsimp only
     have ze:=gX.size;have zq:=G ow;have uI:=G (((PE.E.nM (qH (aN _ _))).alloc (ag #[C D kd,C D vl,C D fr,C D az,au ⟨nm.toArray⟩,O A na ca] 128)).tr gX);have CR:=G (ai.but (k:=w1.heap.size) (CQ.E.drew.alloc (ag #[C D kd,C D vl,C D fr,C D az,au ⟨nm.toArray⟩,O A na ca] 128)) gX I);have jQ:=G (ai.but (k:=w.heap.size) (wI.E.drew.alloc (ag #[C D kd,C D vl,C D fr,C D az,au ⟨nm.toArray⟩,O A na ca] 128)) gX I);refine bF hK abm (λapO=>?_);clear hK K;have ZG:af (eU wn (λq=>w.heap.size<q/\q<wt.heap.size/\q≠w1.heap.size) x (O A na ca)):=eU.keep (w:=wt) (λq hq=>(gX.block q (by have:=hq.2.1;simp only[G7,aW];omega) zU).trans (nK wt.drew _ q abv)) (λq hq=>hq) JH.E;have HQN:=G (ai.but (k:=wt.heap.size) (ai.new wt.drew 128 #[C D kd,C D vl,C D fr,C D az,au ⟨nm.toArray⟩,O A na ca]) gX I);refine aA 4 ?_;refine bK 5 (λK hK=>?_);obtain⟨z0,z1,z2,z3,z4,z5⟩:=gW CR.E;have D7:=(CR.E).frozen;go_simp;refine bF hK abj (λapP=>?_);clear hK K;refine gI ?_;clear z0 z1 z2 z3 z4 z5 D7 ow gX bg apP;(try clear apN);(try clear apO);(try clear aCH);(try clear agO);(try simp only[G7,aW] at ze);go_wp2_with fail;have ZF:=zq.E.hk;have JI:b2=X->k2=k'+2:=λq=>(KY.E q).2.1;go_roundg (if b2 then 0 else nl-k2+1);case measure=>(cases b2<;>simp<;>first|omega|(have:=JI rfl;omega))
     case rel=>
      refine⟨.un ⟨20,nv,0,0,[]⟩ x,20,nv,0,0,[],N ⟨wt.heap.size,0,J⟩,1,1,k2,b2,rfl,vw (by exact CR.E),⟨wt.heap.size,O A na ca,rfl,⟨I,YA,I⟩,?_,?_⟩,(zq.E).heap (λq hq=>ky q I),vz (uI.E) I,KX (jQ.E) I,rfl,?_,YA,vZ.E⟩;·rw[HXH.E];exact KX (HQN.E) I
      ·exact ZG.E.keep (λq hq=>ky q hq.2.2) (λq hq=>⟨hq.1,ae9,hq.2.2⟩)
      ·have:=xI.E;omega):R:=h
theorem agR(h:R:=by rw[Int.natCast_add,show((1:Nat):Int)=1 from rfl] at this;rw[IntWalk.i64_in _ ⟨I,I⟩];exact this):R:=h
theorem bFl(k:True)(h:R:=by
  have h6:((l:Int)==6)=X:=iO;have h6':¬(l:Int)=6:=I;have hl63: -9223372036854775808<=(l:Int)/\(l:Int)<=100:=I;obtain⟨wt,rfl⟩:=dz wo;have VB:=G acn;have D8:=yB;have PE:=H6;have CQ:=HX;have wI:=HR;have JH:=kX;have kN:=G (acj D8.E l);have vC:=D8.E.lt;have Au:af (∀m,m<=n->20*(nl-(k'+1))+2*(8-(l+1))+4<=m->∀W,Ps W g B Al nl cl ts e (k'+1) X->aF aa 204 #[aQ (N ⟨g,0,J⟩),C D (IntKind.i64.wrap ((l:Int)+1))] W (qi m (.bG (l+1)) W g B Al nl cl ts e (k'+1) X)):=λm hm h1 W hP=>by have:=(HH.E m hm).1 (l+1) W (k'+1) X I I h1 hP;exact agR
  cases rG:Bz l (pk ts k' X) with
  |none=>exact agJ
  |some o=>exact agM):R:=h
theorem agS(h:R:=by
  have aP:=G ((aN w.heap.size w).alloc (aC _) (ag #[C D 0,C D 0,C D 0,C D 0,au ⟨#[]⟩,O J 0 0] 128));have jL:=G (ai.new w 128 #[C D 0,C D 0,C D 0,C D 0,au ⟨#[]⟩,O J 0 0]);have iJ:=G (h.go aP.E);have aO:=h.lt;obtain⟨c0,c1,c2,c3⟩:=iJ.E.cells;have lX:=G (ZH.E _ iJ.E);have HH:=G H;have dA:=h.hk;have yx:=h.hn;have gH:=G h.len;clear h H;go_enter func248,ntmps248;go_wp2_with fail;refine lX.E.mono ?_;rintro e' w1 ⟨x,kd,vl,fr,az,nm,A,na,ca,k1,b1,hx,rfl,hv,hp,hb,kM⟩;have aM:=G ((But.of (g:=g) aP.E).tr hb);have ku:=G (jL.E.but hb I);have ed:w.heap.size<w1.heap.size:=aff;have jw:=G ((aN w1.heap.size w1).alloc (aC _) (ag #[C D kd,C D vl,C D fr,C D az,au ⟨nm.toArray⟩,O A na ca] 128));have HX:=G (ai.new w1 128 #[C D kd,C D vl,C D fr,C D az,au ⟨nm.toArray⟩,O A na ca]);have jU:=G (hp.go jw.E);have HAX:af (eU (w1.alloc (ag #[C D kd,C D vl,C D fr,C D az,au ⟨nm.toArray⟩,O A na ca] 128)) (λq=>w.heap.size<q/\q<(w1.alloc (ag #[C D kd,C D vl,C D fr,C D az,au ⟨nm.toArray⟩,O A na ca] 128)).heap.size/\q≠w1.heap.size) x (O A na ca)):=hv.keep (λq hq=>nK _ _ q hq.2) (λq hq=>⟨Rj,by simp only[aW];have:=hq.2;omega,uu⟩);have HT1:=G (bI hx (Am.first kM (by rw[gH.E];omega) (by rw[gH.E];exact hp.hk)));rw[<-xH.E] at HT1;have agT:=kM.1;clear hv hp hb kM hx lX jL iJ;go_wp2_with fail;go_loopg [] (if b1 then 0 else nl-k1+1) (λgk wr=>∃(x:Ex) (kd vl fr az:Int) (nm:List UInt8) (A:Option aK) (na ca k':Nat) (b':Bool),x.hd=⟨kd,vl,fr,az,nm⟩/\ai wr w1.heap.size 128 #[C D kd,C D vl,C D fr,C D az,au ⟨nm.toArray⟩,O A na ca]/\eU wr (λq=>w.heap.size<q/\q<wr.heap.size/\q≠w1.heap.size) x (O A na ca)/\Ps wr g B Al nl cl ts e k' b'/\But g w wr/\ai wr w.heap.size 128 #[C D 0,C D 0,C D 0,C D 0,au ⟨#[]⟩,O J 0 0]/\gk=(if b' then 0 else nl-k'+1)/\k<=k'/\w1.heap.size<wr.heap.size/\BT x k' b');case atStart=>exact⟨x,kd,vl,fr,az,nm,A,na,ca,k1,b1,HT1.E.1,HX.E,HAX.E,jU.E,aM.E.alloc _,ku.E.alloc _,rfl,agT,aG,HT1.E.2⟩
  case round=>
   clear HX HAX jU HT1 jw ku agT;obtain⟨x,kd,vl,fr,az,nm,A,na,ca,k',b',hx,hX,hA,og,gD,hR,rfl,iV,hsr,uJ⟩:=hrel;rw[xH.E] at uJ;obtain⟨wo,rfl⟩:=dz wr;have aCI:=og.hk;have HX:=G hX;have HR:=G hR;have yB:=G og;have H6:=G gD;have kX:=G (bI hA (bI uJ hx));obtain⟨c0,c1,c2,c3⟩:=og.cells;obtain⟨x0,x1,x2,x3,x4,x5⟩:=gW hX;obtain⟨y0,y1,y2,y3,y4,y5⟩:=gW hR;have iB:=hR.frozen;have tT:=hX.frozen;clear hx hX hA og gD hR uJ;cases b';case true=>go_wp2_with fail;obtain⟨hA,uJ,hx⟩:=kX.E;refine eX (agH (vw (by exact HR.E)) rfl) rfl ⟨x,kd,vl,fr,az,nm,A,na,ca,k',Z,hx,rfl,?_,yB.E.heap (λq hq=>ky q I),vz H6.E (aC _),uJ.acm iV⟩;exact hA.keep (λq hq=>ky q qO) (λq hq=>⟨qO,by rw[E8];exact hq.2.1⟩)
   case false=>first|exact bF6 t6|exact bFl tl):R:=h
theorem apQ(h:Ps w g B Al nl cl ts e k X)(l:Nat)(xx:1<=l)(KZ:l<=6)(acn:l≠6)(n:Nat)(hF:20*(nl-k)+2*(8-l)+3<=n+1)(H:∀m,m<=n->tN m w g B Al nl cl ts e nl):aF aa 248 #[aQ (N ⟨g,0,J⟩),C D (l:Nat)] w (qi (n+1) (.bin l) w g B Al nl cl ts e k X):=by have tl:=trivial;have dA:=h.hk;have ZH:=G (λW (hP:Ps W g B Al nl cl ts e k X)=>(H n (aC _)).1 (l+1) W k X I I I hP);simp only[Int.natCast_add,show((1:Nat):Int)=1 from rfl] at ZH;obtain⟨BT,FW⟩:∃f,f=Am n l ts k:=⟨_,rfl⟩;have xH:=G FW;clear FW;exact agS
theorem apR(h:Ps w g B Al nl cl ts e k X)(n:Nat)(hF:20*(nl-k)+2*(8-6)+3<=n+1)(H:∀m,m<=n->tN m w g B Al nl cl ts e nl):aF aa 248 #[aQ (N ⟨g,0,J⟩),C D 6] w (qi (n+1) (.bin 6) w g B Al nl cl ts e k X):=by have t6:=trivial;have dA:=h.hk;have ZH:=G (λW (hP:Ps W g B Al nl cl ts e k X)=>(H n (aC _)).1 (6+1) W k X I I I hP);simp only[show((6+1:Nat):Int)=7 from rfl] at ZH;obtain⟨BT,FW⟩:∃f,f=Am n 6 ts k:=⟨_,rfl⟩;have xH:=G FW;clear FW;exact agS
end
end Go.Proofs.YtgnflmdpalmejaaGreatDoor
