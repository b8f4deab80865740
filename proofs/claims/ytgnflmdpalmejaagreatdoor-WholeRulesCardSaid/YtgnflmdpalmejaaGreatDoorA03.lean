/- Lemmas for the proof of WholeRules (the card is in the file ..WholeRulesCard); each lemma names its own conditions. -/
import Derived.Test.YtgnflmdpalmejaaGreatDoorA01
import Derived.DeepKeys4
import Derived.LoopIn
import Derived.LoopNIn
import Derived.Maps.OwnOps
import Derived.Maps.Range
import Derived.Maps.RangeRun
import Derived.OwnWalkIn
import Derived.RangeFuncBound
import Derived.RangeFuncCalls
import Derived.RangeFuncFrom
import Derived.RangeFuncLeaves
import Derived.RangeFuncNested
import Derived.RangeFuncOne
import Derived.RangeFuncSeq
import Derived.RangeFuncStops
import Derived.Shelf.Abstract
import Derived.Shelf.RegionOpen
import Derived.Sort.MapsRangeIn
import Derived.TacticsInMore
import Derived.WideKeyEntry
namespace Go.Proofs.YtgnflmdpalmejaaGreatDoor
open _root_.Array renaming getElem?_eq_some_iff->JQ,toList_push->Sl
open Bool renaming and_eq_true->bq,and_true->RN,false->X,true->Z
open Go.Instr renaming lookup->Jq,mapUpdate->NC
open Go renaming MapEntry->Ei,TypeId->bM,Value->ak,World->Y,run_underlying->G8
open Go.MapKept renaming run_getObj_map->KF,run_setObj_map->acA
open Go.Oper renaming wp->yt
open Go.Region renaming wanted->sZ
open Go.Result renaming andThen->yl
open Go.RowKit renaming Below->aj
open Go.RowKit.Below renaming heap_alloc->nK
open Go.Value renaming pointer->aQ,tuple->bz
open Inhabited renaming default->ay
open List renaming all_cons->zh,append_assoc->xw,cons_append->o6,foldl_cons->M8,getD_cons_zero->Ih,getElem?_cons_succ->iX,getElem?_cons_zero->iI,getElem?_map->xy,length_append->eB,length_cons->iP,length_drop->MM,length_map->oz,length_nil->pV,length_singleton->mf,map_append->oM,map_cons->kE,map_set->NB,mem_append->pW,mem_cons->jZ,mem_cons_of_mem->F8,mem_map->qw,mem_of_getElem?->Jr,mem_or_eq_of_mem_set->Sm,mem_singleton->lF,nil_append->wF,nodup_append->PM,sum_cons->NH
open Nat renaming le_refl->aC
open Option renaming bind_some->bZ,map_some->qh,none->J,some->N
open Option.some renaming inj->Jt,injEq->kH
open Prod.mk renaming injEq->xL
open Go.Proofs.Tryz renaming prog->aa
open Go.RowKit Go.Lib Go.Proofs.Tryz
set_option maxRecDepth 100000
set_option maxHeartbeats 32000000
set_option linter.unusedVariables false
set_option linter.unusedSimpArgs false
variable{R:Prop}{b dN j n pF:Nat}{es:Array Ei}{h:lL}{o':Obj}{w w':Y}{y:Int}
section
variable{κ β:Type}[DecidableEq κ]
def dX(d:β):List (κ × β)->κ->β
 | [],_=>d
 |p::r,k=>if p.1=k then p.2 else dX d r k
def jH:List (κ × β)->κ->β->List (κ × β)
 | [],k,v=> [(k,v)]
 |p::r,k,v=>if p.1=k then(k,v)::r else p::jH r k v
theorem aqZ(d:β)(l:List (κ × β))(k k':κ)(v:β):dX d (jH l k v) k'=if k=k' then v else dX d l k':=by
 induction l with
 |nil=>simp[jH,dX]
 |cons p r ih=>
  by_cases h:p.1=k
  ·simp only[jH,if_pos h,dX];by_cases h2:k=k';·rw[if_pos h2,if_pos h2]
   rw[if_neg h2,if_neg h2,if_neg (by rw[h];exact h2)]
  simp only[jH,if_neg h,dX];by_cases h2:p.1=k';·rw[if_pos h2,if_pos h2,if_neg (by rintro rfl;exact h h2)]
  rw[if_neg h2,if_neg h2,ih]
theorem ahs(l:List (κ × β))(k:κ)(v:β):(jH l k v).length<=l.length+1:=by
 induction l with
 |nil=>simp[jH]
 |cons p r ih=>
  unfold jH;split;·simp
  simp only[iP];omega
theorem aq0(d:β):∀ {l:List (κ × β)} {k:κ},(∀p,p∈l->p.1≠k)->dX d l k=d:=by
 intro l;induction l with
 |nil=>intro k _;rfl
 |cons p r ih=>intro k h;rw[dX,if_neg (h p aG),ih (λq hq=>h q (F8 _ hq))]
theorem acy(d:β):∀ {l:List (κ × β)} {k:κ} {j:Nat} {p:κ × β},(l.map (·.1)).Nodup->l[j]?=N p->p.1=k->dX d l k=p.2:=by
 intro l;induction l with
 |nil=>intro k j p _ h;simp at h
 |cons q r ih=>
  intro k j p hn h hk;rw[kE,List.nodup_cons] at hn;cases j with
  |zero=>simp only[iI,kH] at h;subst h;rw[dX,if_pos hk]
  |succ j=>simp only[iX] at h;have aY:q.1≠k:=λe=>hn.1 Yw;rw[dX,if_neg aY,ih hn.2 h hk]
theorem acz:∀ {l:List (κ × β)} {k:κ} {v:β},(∀p,p∈l->p.1≠k)->jH l k v=l++ [(k,v)]:=by
 intro l;induction l with
 |nil=>intro k v _;rfl
 |cons p r ih=>intro k v h;rw[jH,if_neg (h p aG),ih (λq hq=>h q (F8 _ hq))];rfl
theorem aq1:∀ {l:List (κ × β)} {k:κ} {v:β} {j:Nat} {p:κ × β},(l.map (·.1)).Nodup->l[j]?=N p->p.1=k->jH l k v=l.set j (k,v):=by
 intro l;induction l with
 |nil=>intro k v j p _ h;simp at h
 |cons q r ih=>
  intro k v j p hn h hk;rw[kE,List.nodup_cons] at hn;cases j with
  |zero=>simp only[iI,kH] at h;subst h;rw[jH,if_pos hk];rfl
  |succ j=>simp only[iX] at h;have aY:q.1≠k:=λe=>hn.1 Yw;rw[jH,if_neg aY,ih hn.2 h hk];rfl
theorem aht(l:List (κ × β))(k:κ)(v:β):(jH l k v).map (·.1)=if k∈l.map (·.1) then l.map (·.1) else l.map (·.1)++ [k]:=by
 induction l with
 |nil=>simp[jH]
 |cons p r ih=>
  unfold jH;by_cases h:p.1=k;·simp[h]
  rw[if_neg h,kE,ih];by_cases h2:k∈r.map (·.1);·rw[if_pos h2,if_pos (by simp only[kE,jZ];exact .inr h2)];rfl
  rw[if_neg h2,if_neg (by simp only[kE,jZ,not_or];exact⟨λe=>h e.symm,h2⟩)];rfl
theorem aq2{l:List (κ × β)}{k:κ}{v:β}(h:(l.map (·.1)).Nodup):((jH l k v).map (·.1)).Nodup:=by
 rw[aht];split;·exact h
 rename_i hn;exact PM.2 ⟨h,aG,λa ha c hc e=>by simp only[lF] at hc;subst hc;exact hn (e▸ha)⟩
theorem aq3{l:List (κ × β)}{k k':κ}{v:β}:k'∈(jH l k v).map (·.1)↔k'=k\/k'∈l.map (·.1):=by
 rw[aht];split;·rename_i h;exact⟨.inr,λg=>g.elim (λe=>e▸h) id⟩
 simp only[pW,lF];exact⟨λg=>g.elim .inr .inl,λg=>g.elim .inr .inl⟩
end
section
open Go.ChangeMaps
open Go.Maps (Keyed)
structure MV(κ β:Type) where
 T:bM
 KT:bM
 VT:bM
 V:κ->ak
 U:β->ak
 d:β
 ok:κ->Prop
 ht:aa.underlying T=N (.map KT VT)
 law:Keyed aa KT
 inj:∀a b,V a=V b->a=b
 zero:∀w:Y,(zeroValue VT).run aa w= .ok (U d) w
 key:∀a,ok a->∃lt,keyOf aa KT (V a)=N lt
section
variable{κ β:Type}
def eD(M:MV κ β)(w:Y)(b:Nat)(l:List (κ × β)):Prop:=∃es dN,w.heap[b]?=N (.map es dN)/\es.toList.map (λe=>(e.key,e.val))=l.map (λp=>(M.V p.1,M.U p.2))/\(∀e,e∈es.toList->e.born<dN)/\(es.toList.map (·.born)).Nodup/\(∀p,p∈l->M.ok p.1)/\(l.map (·.1)).Nodup
variable{M:MV κ β}
theorem eD.made(w:Y):eD M (w.alloc (.map #[] 0)) w []:=⟨#[],0,(MapKept.heap_alloc w _).1,rfl,aG,aG,aG,aG⟩
theorem eD.lt{l:List (κ × β)}(h:eD M w b l):b<w.heap.size:=by obtain⟨es,dN,hb,_⟩:=h;exact(JQ.1 hb).1
theorem eD.kept{l:List (κ × β)}(h:eD M w b l)(hk:w'.heap[b]?=w.heap[b]?):eD M w' b l:=by obtain⟨es,dN,hb,r⟩:=h;exact⟨es,dN,hk.trans hb,r⟩
theorem eD.below{B:Nat}{l:List (κ × β)}(h:eD M w b l)(hb:aj B w w')(hB:b<B):eD M w' b l:=h.kept (hb.block b hB)
theorem eD.drew{l:List (κ × β)}(h:eD M w b l):eD M w.drew b l:=h
theorem eD.drewN{l:List (κ × β)}(h:eD M w b l)(n:Nat):eD M (w.drewN n) b l:=h
theorem eD.alloc{l:List (κ × β)}(h:eD M w b l)(o:Obj):eD M (w.alloc o) b l:=h.kept (nK w o b h.lt)
theorem eD.grown{l:List (κ × β)}{row:Option Nat}(h:eD M w b l)(hg:w.grownBy w' row)(hr:N b≠row):eD M w' b l:=h.kept (hg.block b h.lt hr)
theorem ZT{es:List Ei}{l:List (κ × β)}(h:es.map (λe=>(e.key,e.val))=l.map (λp=>(M.V p.1,M.U p.2))){e:Ei}(he:es[j]?=N e):∃p,l[j]?=N p/\e.key=M.V p.1/\e.val=M.U p.2:=by
 have h1:(es.map (λe=>(e.key,e.val)))[j]?=N (e.key,e.val):=by rw[xy,he];rfl
 rw[h,xy] at h1;cases hp:l[j]? with
 |none=>rw[hp] at h1;cases h1
 |some p=>rw[hp] at h1;simp only[qh,kH,xL] at h1;exact⟨p,rfl,h1.1.symm,h1.2.symm⟩
theorem ahu{es:List Ei}{l:List (κ × β)}(h:es.map (λe=>(e.key,e.val))=l.map (λp=>(M.V p.1,M.U p.2))){p:κ × β}(hp:p∈l):∃e,e∈es/\e.key=M.V p.1:=by have h1:(M.V p.1,M.U p.2)∈l.map (λp=>(M.V p.1,M.U p.2)):=qw.2 ⟨p,hp,rfl⟩;rw[<-h] at h1;obtain⟨e,he,e1⟩:=qw.1 h1;simp only[xL] at e1;exact⟨e,he,e1.1⟩
theorem ahv(o:Obj):w.grownBy (setBlock w b o) (N b):=⟨rfl,rfl,rfl,by simp[setBlock],λk hk aY=>by have qW:b≠k:=λe=>aY MZ;simp[setBlock,Array.getElem?_setIfInBounds_ne qW]⟩
theorem ahw(h:w.heap[b]?=N o')(o:Obj):(setBlock w b o).heap[b]?=N o:=by have hb:b<w.heap.size:=(JQ.1 h).1;simp[setBlock,hb]
theorem eD.push{l:List (κ × β)}{k:κ}(v:β)(hb:w.heap[b]?=N o')(he:es.toList.map (λe=>(e.key,e.val))=l.map (λp=>(M.V p.1,M.U p.2)))(fP:∀e,e∈es.toList->e.born<dN)(pz:(es.toList.map (·.born)).Nodup)(aX:∀p,p∈l->M.ok p.1)(iR:(l.map (·.1)).Nodup)(hk:M.ok k)(hnew:∀p,p∈l->p.1≠k):
  eD M (setBlock w b (.map (es.push ⟨M.V k,M.U v,dN⟩) (dN+1))) b (l++ [(k,v)]):=by
 refine⟨_,_,ahw hb _,?_,?_,?_,?_,?_⟩;·rw[Sl,oM,oM,he];rfl
 ·intro e hm;rw[Sl,pW,lF] at hm;rcases hm with hm|rfl;·have:=fP e hm;omega
  show dN<dN+1;omega
 ·rw[Sl,oM];refine PM.2 ⟨pz,aG,λa ha c hc e1=>?_⟩;simp only[kE,List.map_nil,lF] at hc;obtain⟨x,hx,rfl⟩:=qw.1 ha;have:=fP x hx;omega
 ·intro p hp;rcases pW.1 hp with hp|hp;·exact aX p hp
  rw[lF] at hp;rw[hp];exact hk
 rw[oM];refine PM.2 ⟨iR,aG,λa ha c hc e1=>?_⟩;simp only[kE,List.map_nil,lF] at hc;obtain⟨x,hx,rfl⟩:=qw.1 ha;exact hnew x hx (e1.trans hc)
theorem eD.setAt{l:List (κ × β)}{k:κ}(v:β){e0:Ei}{p:κ × β}(hb:w.heap[b]?=N o')(he:es.toList.map (λe=>(e.key,e.val))=l.map (λp=>(M.V p.1,M.U p.2)))(fP:∀e,e∈es.toList->e.born<dN)(pz:(es.toList.map (·.born)).Nodup)(aX:∀p,p∈l->M.ok p.1)(iR:(l.map (·.1)).Nodup)(hk:M.ok k)(hj:es.toList[j]?=N e0)(hkey:e0.key=M.V k)(hp:l[j]?=N p)(qx:p.1=k):
  eD M (setBlock w b (.map (es.modify j λe=> {e with key:=M.V k,val:=M.U v}) dN)) b (l.set j (k,v)):=by
 have F9:(es.modify j λe=> {e with key:=M.V k,val:=M.U v}).toList=es.toList.set j {e0 with key:=M.V k,val:=M.U v}:=by rw[Array.toList_modify,modify_eq_set _ _ _ _ hj]
 refine⟨_,_,ahw hb _,?_,?_,?_,?_,?_⟩;·rw[F9,NB,NB,he]
 ·intro e hm;rw[F9] at hm;rcases Sm hm with hm|rfl;·exact fP e hm
  exact fP e0 (Jr hj)
 ·rw[F9,NB];have hself:(es.toList.map (·.born)).set j e0.born=es.toList.map (·.born):=Go.WideElems.set_self _ _ _ (by rw[xy,hj];rfl);show((es.toList.map (·.born)).set j e0.born).Nodup;rw[hself];exact pz
 ·intro q hq;rcases Sm hq with hq|rfl;·exact aX q hq
  exact hk
 rw[NB];have hself:(l.map (·.1)).set j k=l.map (·.1):=Go.WideElems.set_self _ _ _ ae6;show((l.map (·.1)).set j k).Nodup;rw[hself];exact iR
theorem ahx{l:List (κ × β)}{k:κ}(he:es.toList.map (λe=>(e.key,e.val))=l.map (λp=>(M.V p.1,M.U p.2)))(aX:∀p,p∈l->M.ok p.1)(hk:M.ok k):
  ((Instr.findKey M.KT (M.V k) es.toList).run aa w= .ok J w/\(∀p,p∈l->p.1≠k))\/∃j e p,(Instr.findKey M.KT (M.V k) es.toList).run aa w= .ok (N (j,e.val)) w/\es.toList[j]?=N e/\e.key=M.V k/\l[j]?=N p/\p.1=k/\e.val=M.U p.2:=by
 obtain⟨lt,aO⟩:=M.key k hk;have hkeys:∀e,e∈es.toList->∃l,keyOf aa M.KT e.key=N l:=λe hm=>by obtain⟨j,hj⟩:=List.getElem?_of_mem hm;obtain⟨p,hp,h1,_⟩:=ZT he hj;rw[h1];exact M.key _ (aX p (Jr hp))
 rcases M.law.find w aO es.toList hkeys with⟨h1,h2⟩|⟨j,e,h1,h2,h3⟩;·refine .inl ⟨h1,λp hp e1=>?_⟩;obtain⟨e,hm,h3⟩:=ahu he hp;exact h2 e hm (by rw[h3,e1])
 obtain⟨p,hp,h4,h5⟩:=ZT he h2;exact .inr ⟨j,e,p,h1,h2,h3,hp,M.inj _ _ (h4.symm.trans h3),h5⟩
end
section
variable{κ β:Type}[DecidableEq κ]{M:MV κ β}
theorem aq4{l:List (κ × β)}{k:κ}(h:eD M w b l)(hk:M.ok k):(Jq M.T (.map (N b)) (M.V k) X).run aa w= .ok (M.U (dX M.d l k)) w:=by
 obtain⟨es,dN,hb,he,_,_,aX,iR⟩:=h;obtain⟨lt,aO⟩:=M.key k hk;have hc:=M.law.check w es.isEmpty aO;rcases ahx (w:=w) he aX hk with⟨h1,h2⟩|⟨j,e,p,h1,_,_,h4,h5,h6⟩;·rw[aq0 M.d h2];simp[Jq,G8 M.ht,KF hb,hc,h1,yl,M.zero w]
 rw[acy M.d iR h4 h5];simp[Jq,G8 M.ht,KF hb,hc,h1,h6,yl,M.zero w]
theorem aq5{l:List (κ × β)}{k:κ}(v:β)(h:eD M w b l)(hk:M.ok k):∃w1,(NC M.T (.map (N b)) (M.V k) (M.U v)).run aa w= .ok () w1/\w.grownBy w1 (N b)/\eD M w1 b (jH l k v):=by
 obtain⟨es,dN,hb,he,fP,pz,aX,iR⟩:=h;obtain⟨lt,aO⟩:=M.key k hk;have hc:=M.law.check w X aO;rcases ahx (w:=w) he aX hk with⟨h1,h2⟩|⟨j,e,p,h1,h2,h3,h4,h5,_⟩
 ·refine⟨setBlock w b (.map (es.push ⟨M.V k,M.U v,dN⟩) (dN+1)),?_,ahv _,?_⟩;·simp[NC,G8 M.ht,KF hb,hc,h1,acA _ hb,yl,setBlock]
  rw[acz h2];exact eD.push v hb he fP pz aX iR hk h2
 have hj:es[j]?=N e:=by simpa using h2
 refine⟨setBlock w b (.map (es.modify j λe=> {e with key:=M.V k,val:=M.U v}) dN),?_,ahv _,?_⟩;·simp[NC,G8 M.ht,KF hb,hc,h1,hj,h3,M.law.stays w aO,acA _ hb,yl,setBlock]
 rw[aq1 iR h4 h5];exact eD.setAt v hb he fP pz aX iR hk h2 h3 h4 h5
end
section
variable{κ β:Type}[DecidableEq κ]{M:MV κ β}(w:Y){ops:Array Oper}{rest:List Oper}{o:Oper}{a:Act}{K:Act->Y->Prop}{Q:Exit->Act->Y->Prop}
theorem ahy(m x:Operand)(iY:o.op=Op.lookup M.T m x X)(b:Nat)(l:List (κ × β))(k:κ)(hm:a.eval m= .map (N b))(hx:a.eval x=M.V k)(h:eD M w b l)(hk:M.ok k)
  (hK:K (a.put o.dst (M.U (dX M.d l k))) w):o.wp aa a w K Q:=by unfold yt;simp[execOp,iY,hm,hx,aq4 h hk,yl];exact hK
theorem JR(hg:sZ o (yielded ops a.tmps)=Z)(m x:Operand)(iY:o.op=Op.lookup M.T m x X)(b:Nat)(l:List (κ × β))(k:κ)(hm:a.eval m= .map (N b))(hx:a.eval x=M.V k)(h:eD M w b l)(hk:M.ok k)
  (hK:wpList aa ops Q rest (a.put o.dst (M.U (dX M.d l k))) w):wpList aa ops Q (o::rest) a w:=BigFrame.wpList_want hg λ_ yE=>ahy w m x iY b l k hm hx h hk (yE _ _ hK)
theorem ahz(m x y:Operand)(iY:o.op=Op.mapUpdate M.T m x y)(b:Nat)(l:List (κ × β))(k:κ)(v:β)(hm:a.eval m= .map (N b))(hx:a.eval x=M.V k)(hy:a.eval y=M.U v)(h:eD M w b l)(hk:M.ok k)
  (hK:∀w',eD M w' b (jH l k v)->w.grownBy w' (N b)->K (a.put o.dst undef) w'):o.wp aa a w K Q:=by obtain⟨w1,gu,hg,H9⟩:=aq5 v h hk;unfold yt;simp[execOp,iY,hm,hx,hy,gu,yl];exact hK _ H9 hg
theorem VL(hg:o.guard=J)(m x y:Operand)(iY:o.op=Op.mapUpdate M.T m x y)(b:Nat)(l:List (κ × β))(k:κ)(v:β)(hm:a.eval m= .map (N b))(hx:a.eval x=M.V k)(hy:a.eval y=M.U v)(h:eD M w b l)(hk:M.ok k)
  (hK:∀w',eD M w' b (jH l k v)->w.grownBy w' (N b)->wpList aa ops Q rest (a.put o.dst undef) w'):wpList aa ops Q (o::rest) a w:=wpList_plain hg λ_ yE=>ahz w m x y iY b l k v hm hx hy h hk λw' h1 h2=>yE _ _ (hK w' h1 h2)
end
section
variable{κ β:Type}{M:MV κ β}
end
section
variable{κ β:Type}[DecidableEq κ]{M:MV κ β}
end
section
variable{κ β:Type}{M:MV κ β}
def vG(M:MV κ β)(w:Y)(b r:Nat)(l:List (κ × β))(ss:List κ)(pF:Nat):Prop:=
 ∃es dN since seen c0,w.heap[b]?=N (.map es dN)/\es.toList.map (λe=>(e.key,e.val))=l.map (λp=>(M.V p.1,M.U p.2))/\(es.toList.map (·.born)).Nodup/\(l.map (·.1)).Nodup/\
  w.heap[r]?=N (.mapIter (N b) since seen c0)/\(∀x∈es.toList,x.born<since)/\since<=c0/\since<=dN/\(leftOf es seen).size=pF/\ss.length+pF<=l.length/\ss.Nodup/\(∀k∈ss,k∈l.map (·.1))/\
  (∀e∈es.toList,∀k,e.key=M.V k->(k∈ss↔seen.contains e.born=Z))
theorem vG.left_eq{r:Nat}{l:List (κ × β)}{ss:List κ}(h:vG M w b r l ss pF):w.rangeLeft b r=pF:=by obtain⟨es,dN,since,seen,c0,hb,_,_,_,hr,_,_,_,hc,_⟩:=h;simp only[World.rangeLeft,hb,hr];exact hc
theorem vG.ne{r:Nat}{l:List (κ × β)}{ss:List κ}(h:vG M w b r l ss pF):r≠b:=by obtain⟨es,dN,since,seen,c0,hb,_,_,_,hr,_⟩:=h;intro e;rw[e,hb] at hr;cases hr
theorem vG.of_walks{r:Nat}{l:List (κ × β)}{ss:List κ}(h:vG M w b r l ss pF)(hk:KeepsWalks w w'):vG M w' b r l ss pF:=by obtain⟨es,dN,since,seen,c0,hb,h1,h2,h3,hr,rest⟩:=h;exact⟨es,dN,since,seen,c0,hk.same b _ hb rfl,h1,h2,h3,hk.same r _ hr rfl,rest⟩
theorem vG.iter_walk{r:Nat}{l:List (κ × β)}{ss:List κ}(h:vG M w b r l ss pF):∃o:Obj,w.heap[r]?=N o/\o.isWalk=Z:=by obtain⟨es,dN,since,seen,c0,_,_,_,_,hr,_⟩:=h;exact⟨_,hr,rfl⟩
theorem vG.len{r:Nat}{l:List (κ × β)}{ss:List κ}(h:vG M w b r l ss pF):ss.length+pF<=l.length:=by obtain⟨es,dN,since,seen,c0,_,_,_,_,_,_,_,_,_,h,_⟩:=h;exact h
theorem vG.nodup{r:Nat}{l:List (κ × β)}{ss:List κ}(h:vG M w b r l ss pF):ss.Nodup/\∀k∈ss,k∈l.map (·.1):=by obtain⟨es,dN,since,seen,c0,_,_,_,_,_,_,_,_,_,_,h,h',_⟩:=h;exact⟨h,h'⟩
theorem eD.range{l:List (κ × β)}(h:eD M w b l):
  ∃w',(Instr.range M.T (.map (N b))).run aa w= .ok (aQ w) w'/\vG M w' b w l [] l.length/\w.grownBy w' J/\w'.heap.size=w.heap.size+1:=by
 have aO:=h.lt;obtain⟨es,dN,hb,he,fP,pz,_,iR⟩:=h;have bH:es.size=l.length:=by have:=congrArg List.length he;simpa using this
 refine⟨_,run_range_map w M.T _ _ b es dN M.ht hb,⟨es,dN,dN,#[],dN,((MapKept.heap_alloc w _).2 b aO).trans hb,he,pz,iR,(MapKept.heap_alloc w _).1,fP,aC _,aC _,?_,aG,aG,aG,aG⟩,World.grownBy_alloc w _ J,aG⟩;rw[<-bH];simp[leftOf]
theorem vG.next{r:Nat}{l:List (κ × β)}{ss:List κ}(h:vG M w b r l ss pF)(ty:bM):
  (pF=0/\(∀k,k∈l.map (·.1)->k∈ss)/\(Instr.next (aQ r) X ty).run aa w= .ok (bz #[X]) w)\/
  ∃k v w' cnt',(Instr.next (aQ r) X ty).run aa w= .ok (bz #[Z,M.V k,M.U v]) w'/\vG M w' b r l (ss++ [k]) cnt'/\cnt'<pF/\w.grownBy w' (N r)/\w'.heap.size=w.heap.size/\
   (Instr.entry (aQ r)).run aa w'= .ok (bz #[M.V k,M.U v]) w':=by
 have aY:=h.ne;obtain⟨es,dN,since,seen,c0,hb,he,pz,iR,hr,hold,hsc,hsk,rfl,bH,ze,hsm,acB⟩:=h;rcases run_next_at (P:=aa) w ty r b since c0 seen es dN hr hb hold hsc with⟨h0,gu⟩|⟨e,yF,w1,kP,gu⟩;·refine Or.inl ⟨h0,λk hk=>?_,gu⟩;obtain⟨p,hp,rfl⟩:=qw.1 hk;obtain⟨x,hx,hxk⟩:=ahu he hp;exact(acB x hx p.1 hxk).2 (all_seen es seen h0 x hx)
 obtain⟨hem,hes⟩:=mem_left yF;obtain⟨j,hj⟩:=List.getElem?_of_mem hem;obtain⟨p,hp,hkey,hval⟩:=ZT he hj;have hr1:w1.heap[r]?=N (.mapIter (N b) since seen c0):=by rcases kP with rfl|rfl<;>exact hr
 have aB:w1.heap[b]?=N (.map es dN):=by rcases kP with rfl|rfl<;>exact hb
 have F9:=MapKept.heap_set (o':= .mapIter (N b) since (seen.push e.born) dN) hr1;have hb':(setBlock w1 r (.mapIter (N b) since (seen.push e.born) dN)).heap[b]?=N (.map es dN):=(F9.2 b (λe1=>aY e1.symm)).trans aB;have hnew:p.1∉ss:=λhm=>by have:=(acB e hem p.1 hkey).1 hm;rw[hes] at this;cases this
 have aq6:=left_shrinks es seen e yF;have aq7:∀x∈es.toList,x.key=M.V p.1->x=e:=λx hx hxk=>by
  obtain⟨j',Ik⟩:=List.getElem?_of_mem hx;obtain⟨p',DX,hkey',_⟩:=ZT he Ik;have e1:p'.1=p.1:=M.inj _ _ (hkey'.symm.trans hxk);have aO:j<(l.map (·.1)).length:=by rw[oz];exact(List.getElem?_eq_some_iff.1 hp).1
  have:j'=j:=((List.getElem?_inj aO iR).1 (by rw[xy,xy,hp,DX];show N p.1=N p'.1;rw[e1])).symm;subst this;rw[hj] at Ik;exact(Jt Ik).symm
 refine Or.inr ⟨p.1,p.2,_,_,by rw[gu,hkey,hval],⟨es,dN,since,seen.push e.born,dN,hb',he,pz,iR,F9.1,hold,hsk,hsk,rfl,?_,?_,?_,?_⟩,aq6,?_,?_,?_⟩;·rw[eB,mf];omega
 ·exact PM.2 ⟨ze,aG,λa ha c hc e1=>by simp only[lF] at hc;subst hc;exact hnew (e1▸ha)⟩
 ·intro k hk;rcases pW.1 hk with hk|hk;·exact hsm k hk
  rw[lF] at hk;rw[hk];exact qw.2 ⟨p,Jr hp,rfl⟩
 ·intro x hx k hk;rw[contains_push,pW,lF,acB x hx k hk,Bool.or_eq_true,beq_iff_eq];constructor
  ·rintro(h1|h1);·exact .inl h1
   right;rw[h1] at hk;rw[aq7 x hx hk]
  rintro(h1|h1);·exact .inl h1
  right;have:=born_inj pz hx hem h1;subst this;exact M.inj _ _ (hk.symm.trans hkey)
 ·rcases kP with rfl|rfl<;>exact⟨rfl,rfl,rfl,by simp[setBlock],λi _ hi=>F9.2 i (λe1=>hi (by rw[e1]))⟩
 ·rcases kP with rfl|rfl<;>simp[setBlock]
 have:=run_entry_at (P:=aa) _ r b since seen es dN e F9.1 hb' hem pz;rw[hkey,hval] at this;exact this
end
section
variable{κ β:Type}{M:MV κ β}{F:Fence}{n:Nat}(w:Y){ops:Array Oper}{rest:List Oper}{o:Oper}{a:Act}{Q:Exit->Act->Y->Prop}
theorem aq8(hg:o.guard=J)(m:Operand)(iY:o.op=Op.range M.T m)(b:Nat)(l:List (κ × β))(hm:a.eval m= .map (N b))(h:eD M w b l)
  (hK:∀w',vG M w' b w l [] l.length->w.grownBy w' J->w'.heap.size=w.heap.size+1->wpListIn F n aa ops Q rest (a.put o.dst (aQ w)) w'):
  wpListIn F n aa ops Q (o::rest) a w:=by
 refine wpListIn_plain hg λK' yE=>?_;obtain⟨w',gu,r1,r2,r3⟩:=h.range;unfold Oper.wpIn;refine⟨?_,?_⟩;·simp[Oper.about,iY]
 rw[Oper.semAt_plain F _ _ (by rw[iY];intro c sO;cases sO)];simp[execOp,iY,hm,gu,yl];exact yE _ _ (hK w' r1 r2 r3)
theorem aq9(hg:o.guard=J)(it:Operand)(iY:o.op=Op.next it X)(b r:Nat)(l:List (κ × β))(ss:List κ)(pF:Nat)(iE:a.eval it=aQ r)(h:vG M w b r l ss pF)
  (hDone:pF=0->(∀k,k∈l.map (·.1)->k∈ss)->wpListIn F n aa ops Q rest (a.put o.dst (bz #[X])) w)
  (hMore:∀(k:κ) (v:β) (w':Y) (cnt':Nat),vG M w' b r l (ss++ [k]) cnt'->cnt'<pF->w.grownBy w' (N r)->w'.heap.size=w.heap.size->
   (Instr.entry (aQ r)).run aa w'= .ok (bz #[M.V k,M.U v]) w'->wpListIn F n aa ops Q rest (a.put o.dst (bz #[Z,M.V k,M.U v])) w'):
  wpListIn F n aa ops Q (o::rest) a w:=by
 refine wpListIn_plain hg λK' yE=>?_;unfold Oper.wpIn;refine⟨by simp[Oper.about,iY],?_⟩;rw[Oper.semAt_plain F _ _ (by rw[iY];intro c sO;cases sO)];rcases h.next o.type with⟨h0,hl,gu⟩|⟨k,v,w',cnt',gu,zw,aO,hgr,bV,Ga⟩;·simp[execOp,iY,iE,gu,yl];exact yE _ _ (hDone h0 hl)
 simp[execOp,iY,iE,gu,yl];exact yE _ _ (hMore k v w' cnt' zw aO hgr bV Ga)
end
end
structure Ins where
 op:Int
 a:Int
 b:Int
deriving DecidableEq
instance:Inhabited Ins:=⟨⟨0,0,0⟩⟩
def bX(n:Int):Bool:=decide (-1000000000000<=n)&&decide (n<=1000000000000)
def tr(b:Bool):Int:=if b then 1 else 0
def PN(x y:Int):Option Int:=if x=0\/y=0 then N 0 else if max y (-y)>1000000000000/max x (-x) then J else N (x*y)
def Sn(a x:Int):Int:=if x<0 then -((2*max x (-x)+a)/(2*a)) else(2*max x (-x)+a)/(2*a)
def VM(op a x y:Int):Option Int:=
 if op=5 then N (-x) else if op=6 then N (max x (-x)) else if op=8 then N (tr (decide (x=0)))
 else if op=9 then(if a<1\/bX a=X then J else N (Sn a x))
 else if op=10 then N (x+y) else if op=11 then N (x-y) else if op=13 then N (min x y) else if op=14 then N (max x y)
 else if op=15 then N (tr (decide (x≠0)&&decide (y≠0))) else if op=16 then N (tr (decide (x≠0)||decide (y≠0)))
 else if op=17 then N (tr (decide (x<y))) else if op=18 then N (tr (decide (x<=y))) else if op=19 then N (tr (decide (x=y)))
 else if op=20 then N (tr (decide (x≠y))) else if op=21 then N (tr (decide (y<=x))) else if op=22 then N (tr (decide (y<x))) else J
def iC(op a x y:Int):Option Int:=
 if bX x=X\/bX y=X then J else if op=12 then PN x y
 else(VM op a x y).bind λv=>if bX v then N v else J
def PO(h:lL)(ts:List (Option Int)):Option Int:=
 let want:=if h.kind=6\/h.kind=12\/h.kind=13 then 2 else 1
 if ts.all (· ==N want) then N (if h.kind=6\/12<=h.kind/\h.kind<=19 then 2 else 1) else J
def fA(ns:List (List UInt8))(pair:Bool):Ex->Option Int
 | .lf h=>if h.kind=2 then(if ns.contains h.name then N 1 else J)
   else if h.kind=21\/h.kind=22 then(if h.az<h.from_\/h.kind=22/\pair=X then J else N 1) else PO h []
 | .un h a=>PO h [fA ns pair a]
 | .bi h a b=>PO h [fA ns pair a,fA ns pair b]
def nY(k:Int):Int:=if k<=6 then k+2 else if k=20 then 9 else k+3
def cE(ns:List (List UInt8)):Ex->List Ins
 | .lf h=>if h.kind=1 then[⟨1,h.value,0⟩] else if h.kind=2 then[⟨2,(ns.idxOf h.name:Nat),0⟩]
   else if h.kind=21 then[⟨3,h.from_,h.az⟩] else[⟨4,h.from_,h.az⟩]
 | .un h a=>cE ns a++ [⟨nY h.kind,if h.kind=20 then h.value else 0,0⟩]
 | .bi h a b=>cE ns a++cE ns b++ [⟨nY h.kind,0,0⟩]
structure Mc where
 rd:Int->Int->Int->Option Int
 sh:Int->Option Int
 other:Int
def look(env:List (List UInt8 × Int))(n:List UInt8):Int:=match env.find? (λp=>p.1==n) with
 |some p=>p.2
 |none=>0
def kQ(M:Mc)(env:List (List UInt8 × Int)):Ex->Option Int
 | .lf h=>if h.kind=1 then N h.value else if h.kind=2 then N (look env h.name)
   else if h.kind=21 then M.rd h.from_ h.az (-1) else M.rd h.from_ h.az M.other
 | .un h a=>(kQ M env a).bind λv=>if h.kind=5 then M.sh v else iC (nY h.kind) h.value v 0
 | .bi h a b=>(kQ M env a).bind λv=>(kQ M env b).bind λv'=>iC (nY h.kind) h.value v v'
def qX(cz:Int->Bool)(pair:Bool):List (List UInt8)->List cZ->Option (List (List UInt8))
 |ns,[]=>N ns
 |ns,s::r=>if fA ns pair s.expr=N (if s.kind=2 then 2 else 1) then
   (
     if s.kind=1 then(if ns.contains s.name then J else qX cz pair (ns++ [s.name]) r)
     else if s.kind=3 then(if cz s.dM then qX cz pair ns r else J) else qX cz pair ns r) else J
def qj(cz:Int->Bool)(r:di):Bool:=(qX cz r.pair [] r.stmts).isSome&&cz r.az
def mg(cz:Int->Bool):List (List UInt8)->List di->Bool
 |_,[]=>Z
 |seen,r::p=> !seen.contains r.name&&qj cz r&&mg cz (seen++ [r.name]) p
def cS:List (List UInt8)->List cZ->List Ins
 |_,[]=> []
 |ns,s::r=>cE ns s.expr++((if s.kind=1 then[⟨23,(ns.length:Nat),0⟩] else if s.kind=2 then[⟨24,0,0⟩] else[⟨25,s.dM,0⟩])++
   cS (if s.kind=1 then ns++ [s.name] else ns) r)
def cR(r:di):List Ins:=cS [] r.stmts++ [⟨26,r.az,0⟩]
inductive Out where
 |bad
 |err
 |nil
 |fin (posts:List (Int × Int)) (az:Int)
def dQ(M:Mc):List Ins->List Int->List Int->List (Int × Int)->Out
 | [],_,_,_=> .nil
 |i::r,dH,ls,ps=>
  if i.op=1 then dQ M r (i.a::dH) ls ps
  else if i.op=2 then dQ M r (ls.getD i.a.toNat 0::dH) ls ps
  else if i.op=3 then(match M.rd i.a i.b (-1) with|J=> .err|N v=>dQ M r (v::dH) ls ps)
  else if i.op=4 then(match M.rd i.a i.b M.other with|J=> .err|N v=>dQ M r (v::dH) ls ps)
  else if i.op=26 then .fin ps i.a
  else match dH with
   | []=> .bad
   |v::s=>
    if i.op=7 then(match M.sh v with|J=> .err|N u=>dQ M r (u::s) ls ps)
    else if i.op=23 then dQ M r s (ls++ [v]) ps
    else if i.op=24 then(if v=0 then .nil else dQ M r s ls ps)
    else if i.op=25 then dQ M r s ls (ps++ [(i.a,v)])
    else if i.op=5\/i.op=6\/i.op=8\/i.op=9 then(match iC i.op i.a v 0 with|J=> .err|N u=>dQ M r (u::s) ls ps)
    else match s with
     | []=> .bad
     |v'::s'=>match iC i.op 0 v' v with|J=> .err|N u=>dQ M r (u::s') ls ps
def CX(M:Mc):List cZ->List (List UInt8 × Int)->List (Int × Int)->Int->Out
 | [],_,ps,az=> .fin ps az
 |s::r,env,ps,az=>match kQ M env s.expr with
  |none=> .err
  |some v=>if s.kind=1 then CX M r (env++ [(s.name,v)]) ps az
    else if s.kind=2 then(if v=0 then .nil else CX M r env ps az)
    else CX M r env (ps++ [(s.dM,v)]) az
def dZ(op:Int):Nat:=if op=5\/op=6\/op=7\/op=8\/op=9\/op=23\/op=24\/op=25 then 1 else if 10<=op/\op<=22 then 2 else 0
def ji(op:Int):Nat:=if 1<=op/\op<=22 then 1 else 0
def kI(i:Ins)(pair:Bool)(st:Nat):Bool:=
 if i.op=1 then bX i.a&&decide (i.b=0)
 else if i.op=2 then decide (0<=i.a)&&decide (i.a<(st:Int))&&decide (i.b=0)
 else if i.op=3\/i.op=4 then iw i.a&&iw i.b&&decide (i.a<=i.b)&&(decide (i.op=3)||pair)
 else if i.op=9 then decide (1<=i.a)&&bX i.a&&decide (i.b=0)
 else if i.op=23 then decide (i.a=(st:Int))&&decide (i.b=0)
 else if i.op=25\/i.op=26 then iw i.a&&decide (i.b=0)
 else decide (i.a=0)&&decide (i.b=0)
def je(pair:Bool):List Ins->Nat->Nat->Bool
 | [],_,_=>Z
 |i::r,d,st=>(decide (1<=i.op)&&decide (i.op<=26)&&(decide (i.op=26)==decide (r= []))&&kI i pair st&&
   decide (dZ i.op<=d)&&(decide (ji i.op≠0)||decide (d=dZ i.op)))&&je pair r (d+ji i.op-dZ i.op) (st+if i.op=23 then 1 else 0)
def oC(pair:Bool)(is:List Ins):Bool:= !is.isEmpty&&je pair is 0 0
def lG(out:List Ins)(x:Ins):List Ins:=
 if ji x.op=0\/dZ x.op=0\/out.length<dZ x.op then out++ [x]
 else if(out.drop (out.length-dZ x.op)).any (λy=>decide (y.op≠1)) then out++ [x]
 else match iC x.op x.a ((out.drop (out.length-dZ x.op)).getD 0 ay).a (if dZ x.op=2 then((out.drop (out.length-dZ x.op)).getD 1 ay).a else 0) with
  |none=>out++ [x]
  |some v=>out.take (out.length-dZ x.op)++ [⟨1,v,0⟩]
def wM(is:List Ins):List Ins:=is.foldl lG []
theorem Sq(H:oZ h n=Z):n=arity h.kind/\1<=h.kind/\h.kind<=22/\(h.kind≠20->h.kind≠1->h.value=0):=by
 unfold oZ at H;simp only[bq,decide_eq_true_eq,beq_iff_eq] at H;obtain⟨⟨⟨h1,h2⟩,h3⟩,h4⟩:=H;refine⟨h3,h1,h2,λg1 g2=>?_⟩;by_cases g3:h.kind=2;·simp only[g3] at h4;simp at h4;have:=congrArg lL.value h4.2;simpa using this
 by_cases g4:h.kind=21\/h.kind=22;·simp only[if_neg g2,if_neg g1,if_neg g3,if_pos g4,bq,beq_iff_eq] at h4;have:=congrArg lL.value h4.2;simpa using this
 simp only[if_neg g2,if_neg g1,if_neg g3,if_neg g4,beq_iff_eq] at h4;have:=congrArg lL.value h4;simpa[hk] using this
theorem ahA(h:R:=by
  obtain⟨h1,h2,h3,_⟩:=Sq H;unfold arity at h1;split at h1;·omega
  ·split at h1<;>omega):R:=h
theorem PQ(H:oZ h 0=Z):h.kind=1\/h.kind=2\/h.kind=21\/h.kind=22:=by exact ahA
theorem ND(H:oZ h 1=Z):h.kind=3\/h.kind=4\/h.kind=5\/h.kind=6\/h.kind=20:=by exact ahA
theorem NF(H:oZ h 2=Z):7<=h.kind/\h.kind<=19/\h.value=0:=by
 obtain⟨h1,h2,h3,h4⟩:=Sq H;unfold arity at h1;split at h1;·omega
 split at h1;·exact⟨I,I,h4 I I⟩
 omega
theorem ara:∀(env:List (List UInt8 × Int)) (n:List UInt8),(env.map (·.1)).contains n=Z->(env.map (·.2)).getD ((env.map (·.1)).idxOf n) 0=look env n:=by
 intro env n;induction env with
 |nil=>intro h;simp at h
 |cons p env ih=>
  intro h;unfold look;by_cases hp:p.1=n;·simp[hp]
  have hb:(p.1==n)=X:=by simpa using hp
  simp only[kE,List.contains_cons,Bool.or_eq_true,beq_iff_eq] at h;have h':=h.resolve_left (λe=>hp e.symm);have hi:(p.1::env.map (·.1)).idxOf n=(env.map (·.1)).idxOf n+1:=by rw[List.idxOf_cons,hb];rfl
  simp only[kE,hi,List.getD_cons_succ];rw[ih h'];unfold look;rw[List.find?_cons_of_neg (by simpa using hp)]
theorem arb(M:Mc)(env:List (List UInt8 × Int))(pair:Bool):∀(x:Ex) (r:List Ins) (dH:List Int) (ps:List (Int × Int)) (t:Int),eG x=Z->fA (env.map (·.1)) pair x=N t->
  dQ M (cE (env.map (·.1)) x++r) dH (env.map (·.2)) ps=match kQ M env x with
   |none=> .err
   |some v=>dQ M r (v::dH) (env.map (·.2)) ps:=by
 intro x;induction x with
 |lf h=>
  intro r dH ps t ho ht;have hk:=PQ ho;rcases hk with hk|hk|hk|hk;·simp[cE,kQ,hk,dQ]
  ·simp only[fA,hk,if_pos] at ht;have hc:(env.map (·.1)).contains h.name=Z:=by
    by_cases hc:(env.map (·.1)).contains h.name=Z;·exact hc
    rw[if_neg hc] at ht;exact absurd ht aG
   have hl:=ara env h.name hc;simp[cE,kQ,hk,dQ,<-hl]
  ·simp[cE,kQ,hk,dQ];all_goals(cases M.rd h.from_ h.az (-1)<;>rfl)
  simp[cE,kQ,hk,dQ];all_goals(cases M.rd h.from_ h.az M.other<;>rfl)
 |un h a ih=>
  intro r dH ps t ho ht;simp only[eG,bq] at ho;have hk:=ND ho.1;have hv:=(Sq ho.1).2.2.2;have CY:∃u,fA (env.map (·.1)) pair a=N u:=by
   simp only[fA,PO,zh,List.all_nil,RN] at ht;cases hq:fA (env.map (·.1)) pair a with
   |none=>rw[hq] at ht;simp at ht
   |some u=>exact⟨u,rfl⟩
  obtain⟨u,hu⟩:=CY;have hI:=ih (⟨nY h.kind,if h.kind=20 then h.value else 0,0⟩::r) dH ps u ho.2 hu;simp only[cE,xw,o6,wF];rw[hI];simp only[kQ];cases kQ M env a with
  |none=>rfl
  |some v=>rcases hk with hk|hk|hk|hk|hk<;>simp[hk,nY,dQ,hv]<;>rfl
 |bi h a b qg vg=>
  intro r dH ps t ho ht;simp only[eG,bq] at ho;have hk:=NF ho.1;have CY:(∃u,fA (env.map (·.1)) pair a=N u)/\∃u,fA (env.map (·.1)) pair b=N u:=by
   simp only[fA,PO,zh,List.all_nil,RN] at ht;cases hq:fA (env.map (·.1)) pair a with
   |none=>rw[hq] at ht;simp at ht
   |some u=>cases hq':fA (env.map (·.1)) pair b with
    |none=>rw[hq'] at ht;simp at ht
    |some u'=>exact⟨⟨u,rfl⟩,⟨u',rfl⟩⟩
  obtain⟨⟨u,hu⟩,⟨u',hu'⟩⟩:=CY;simp only[cE,xw,o6,wF];rw[qg _ dH ps u ho.2.1 hu];simp only[kQ];cases kQ M env a with
  |none=>rfl
  |some v=>
   simp only[bZ];rw[vg _ (v::dH) ps u' ho.2.2 hu'];cases kQ M env b with
   |none=>rfl
   |some v'=>
    simp only[bZ,hk.2.2,dQ];have h1:nY h.kind=h.kind+3:=afx;rw[h1];repeat rw[if_neg I]
    all_goals rfl
theorem arc(M:Mc)(cz:Int->Bool)(pair:Bool)(az:Int):∀(l:List cZ) (env:List (List UInt8 × Int)) (ps:List (Int × Int)),l.all o5=Z->(qX cz pair (env.map (·.1)) l).isSome=Z->
  dQ M (cS (env.map (·.1)) l++ [⟨26,az,0⟩]) [] (env.map (·.2)) ps=CX M l env ps az:=by
 intro l;induction l with
 |nil=>intro env ps _ _;simp[cS,CX,dQ]
 |cons s l ih=>
  intro env ps ho hc;simp only[zh,bq] at ho;have hs:=ho.1;unfold o5 at hs;simp only[bq,decide_eq_true_eq] at hs;have hkind:s.kind=1\/s.kind=2\/s.kind=3:=by
   by_cases g1:s.kind=1;·exact .inl g1
   by_cases g2:s.kind=2;·exact .inr (.inl g2)
   by_cases g3:s.kind=3;·exact .inr (.inr g3)
   rw[if_neg g1,if_neg g2,if_neg g3] at hs;exact absurd hs.1.1 aG
  unfold qX at hc;have kZ:fA (env.map (·.1)) pair s.expr=N (if s.kind=2 then 2 else 1):=by
   by_cases h:fA (env.map (·.1)) pair s.expr=N (if s.kind=2 then 2 else 1);·exact h
   rw[if_neg h] at hc;simp at hc
  rw[if_pos kZ] at hc;simp only[cS,xw];rw[arb M env pair s.expr _ [] ps _ hs.2 kZ];simp only[CX];cases kQ M env s.expr with
  |none=>rfl
  |some v=>
   rcases hkind with hk|hk|hk
   ·simp only[hk,if_pos] at hc |-;split at hc;·simp at hc
    have:=ih (env++ [(s.name,v)]) ps ho.2 U7;rw[<-this];simp[dQ]
   ·simp only[hk] at hc |-;simp at hc |-;have:=ih env ps ho.2 U7;rw[<-this];simp[dQ]
   simp only[hk] at hc |-;simp at hc |-;have hf:cz s.dM=Z:=by
    cases hf:cz s.dM with
    |true=>rfl
    |false=>rw[hf] at hc;simp at hc
   have:=ih env (ps++ [(s.dM,v)]) ho.2 (by simp only[hf,if_pos] at hc;simpa using hc);rw[<-this];simp[dQ]
theorem ard(M:Mc)(cz:Int->Bool)(r:di)(ho:jK r=Z)(hc:qj cz r=Z):dQ M (cR r) [] [] []=CX M r.stmts [] [] r.az:=by unfold jK at ho;unfold qj at hc;simp only[bq] at ho hc;exact arc M cz r.pair r.az r.stmts [] [] ho.2 hc.1
theorem arf{x v:Int}(h:PN x y=N v):bX v=Z:=by
 unfold PN at h;split at h;·simp only[kH] at h;subst h;rfl
 rename_i h0;split at h;·exact absurd h aG
 rename_i h1;simp only[kH] at h;have hx:0<max x (-x):=I;have h2:max y (-y)*max x (-x)<=1000000000000:=(Int.le_ediv_iff_mul_le hx).1 I;have h3:x*y<=max y (-y)*max x (-x)/\ -(x*y)<=max y (-y)*max x (-x):=by
  rcases Int.le_total x 0 with gx|gx<;>rcases Int.le_total y 0 with gy|gy
  ·rw[Int.max_eq_right (by omega:y<= -y),Int.max_eq_right (by omega:x<= -x),Int.neg_mul_neg,Int.mul_comm y x];have:0<=x*y:=Int.mul_nonneg_of_nonpos_of_nonpos gx gy;omega
  ·rw[Int.max_eq_left (by omega: -y<=y),Int.max_eq_right (by omega:x<= -x),Int.mul_neg,Int.mul_comm y x];have:x*y<=0:=Int.mul_nonpos_of_nonpos_of_nonneg gx gy;omega
  ·rw[Int.max_eq_right (by omega:y<= -y),Int.max_eq_left (by omega: -x<=x),Int.neg_mul,Int.mul_comm y x];have:x*y<=0:=Int.mul_nonpos_of_nonneg_of_nonpos gx gy;omega
  rw[Int.max_eq_left (by omega: -y<=y),Int.max_eq_left (by omega: -x<=x),Int.mul_comm y x];have:0<=x*y:=Int.mul_nonneg gx gy;omega
 subst h;simp only[bX,bq,decide_eq_true_eq];omega
theorem arh{op a x v:Int}(h:iC op a x y=N v):bX v=Z:=by
 unfold iC at h;split at h;·exact absurd h aG
 split at h;·exact arf h
 cases hq:VM op a x y with
 |none=>rw[hq] at h;simp at h
 |some u=>
  rw[hq] at h;simp only[bZ] at h;split at h;·simp only[kH] at h;subst h;assumption
  exact absurd h aG
theorem ari{op a x:Int}(h:op≠9):iC op a x y=iC op 0 x y:=by unfold iC VM;simp only[if_neg h]
theorem arj(a x y:Int):iC 7 a x y=J:=by
 unfold iC;split;·rfl
 rfl
theorem ahB(M:Mc){r r':List Ins}(h:dQ M r=dQ M r'):∀pre:List Ins,dQ M (pre++r)=dQ M (pre++r'):=by
 intro pre;induction pre with
 |nil=>simpa using h
 |cons i pre ih=>funext dH ls ps;simp only[o6,dQ,ih]
theorem ahC(pair:Bool){r r':List Ins}(he:r= []↔r'= [])(h:∀d st,je pair r d st=Z->je pair r' d st=Z):
  ∀(pre:List Ins) (d st:Nat),je pair (pre++r) d st=Z->je pair (pre++r') d st=Z:=by
 intro pre;induction pre with
 |nil=>intro d st hk;simpa using h d st MR
 |cons i pre ih=>
  intro d st hk;have hee:(pre++r= [])=(pre++r'= []):=by simp[he]
  simp only[o6,je,hee,bq] at hk |-;exact⟨hk.1,ih _ _ hk.2⟩
theorem ZU(out:List Ins)(x:Ins):lG out x=out++ [x]\/
  (∃pre y v,out=pre++ [y]/\y.op=1/\dZ x.op=1/\ji x.op=1/\iC x.op x.a y.a 0=N v/\lG out x=pre++ [⟨1,v,0⟩])\/
  (∃pre y z v,out=pre++ [y,z]/\y.op=1/\z.op=1/\dZ x.op=2/\ji x.op=1/\iC x.op x.a y.a z.a=N v/\lG out x=pre++ [⟨1,v,0⟩]):=by
 by_cases h0:ji x.op=0\/dZ x.op=0\/out.length<dZ x.op;·left;unfold lG;rw[if_pos h0]
 by_cases h1:(out.drop (out.length-dZ x.op)).any (λy=>decide (y.op≠1))=Z;·left;unfold lG;rw[if_neg h0,if_pos h1]
 have hp:ji x.op=1:=by unfold ji at h0 |-;split<;>simp_all
 have ht:dZ x.op=1\/dZ x.op=2:=by
  unfold dZ at h0 |-;split;·exact .inl rfl
  split;·exact .inr rfl
  simp_all
 have ahD:out=out.take (out.length-dZ x.op)++out.drop (out.length-dZ x.op):=(List.take_append_drop _ _).symm;have bH:(out.drop (out.length-dZ x.op)).length=dZ x.op:=KJ;generalize hd:out.drop (out.length-dZ x.op)=dr at*;generalize hpre:out.take (out.length-dZ x.op)=pre at*;have JS:lG out x=(match iC x.op x.a (dr.getD 0 ay).a (if dZ x.op=2 then(dr.getD 1 ay).a else 0) with|J=>out++ [x]|N v=>pre++ [⟨1,v,0⟩]):=by unfold lG;rw[if_neg h0,hd,if_neg h1,hpre];all_goals rfl
 rcases ht with ht|ht
 ·rw[ht] at bH;obtain⟨y,rfl⟩:=List.length_eq_one_iff.1 bH;have hy:y.op=1:=MU;rw[ht] at JS;simp only[Ih] at JS;cases hv:iC x.op x.a y.a 0 with
  |none=>left;rw[JS];simp[hv]
  |some v=>right;left;exact⟨pre,y,v,ahD,hy,ht,hp,hv,by rw[JS];simp[hv]⟩
 rw[ht] at bH;obtain⟨y,z,rfl⟩:∃y z,dr= [y,z]:=by
  match dr,bH with
  | [y,z],_=>exact⟨y,z,rfl⟩
 have hy:y.op=1/\z.op=1:=by simpa using h1
 rw[ht] at JS;simp only[Ih,List.getD_cons_succ,if_pos] at JS;cases hv:iC x.op x.a y.a z.a with
 |none=>left;rw[JS];simp[hv]
 |some v=>right;right;exact⟨pre,y,z,v,ahD,hy.1,hy.2,ht,hp,hv,by rw[JS];simp[hv]⟩
theorem ahE{op:Int}(ht:dZ op=1)(hp:ji op=1):op=5\/op=6\/op=7\/op=8\/op=9:=by
 unfold dZ at ht;unfold ji at hp;split at hp
 ·split at ht;·omega
  split at ht<;>simp at ht
 simp at hp
theorem ahF{op:Int}(ht:dZ op=2):10<=op/\op<=22:=by
 unfold dZ at ht;split at ht;·simp at ht
 split at ht;·assumption
 simp at ht
theorem ark(M:Mc)(out:List Ins)(x:Ins)(r:List Ins):dQ M (lG out x++r)=dQ M (out++x::r):=by
 rcases ZU out x with h|⟨pre,y,v,rfl,hy,ht,hp,hv,h⟩|⟨pre,y,z,v,rfl,hy,hz,ht,_,hv,h⟩;·rw[h];simp
 ·rw[h];simp only[xw,o6,wF];refine ahB M ?_ pre;funext dH ls ps;have ho:=ahE ht hp;rcases ho with ho|ho|ho|ho|ho;·simp[dQ,hy,ho];rw[ho] at hv;rw[hv]
  ·simp[dQ,hy,ho];rw[ho] at hv;rw[hv]
  ·rw[ho,arj] at hv;exact absurd hv aG
  ·simp[dQ,hy,ho];rw[ho] at hv;rw[hv]
  simp[dQ,hy,ho];rw[ho] at hv;rw[hv]
 rw[h];simp only[xw,o6,wF];refine ahB M ?_ pre;funext dH ls ps;have ho:=ahF ht;rw[ari I] at hv;simp only[dQ,hy,hz,if_pos];repeat rw[if_neg I]
 rw[hv]
theorem arl(M:Mc):∀(is out:List Ins),dQ M (is.foldl lG out)=dQ M (out++is):=by
 intro is;induction is with
 |nil=>intro out;simp
 |cons x is ih=>intro out;rw[M8,ih,ark]
theorem arn(M:Mc)(is:List Ins):dQ M (wM is)=dQ M is:=arl M is []
theorem ahG(h:R:=by have h23:x.op≠23:=I;simp only[if_neg h23] at h1;simp only[dZ,ji] at h1 |-;simp[hr,arh hv] at h1 |-;exact h1):R:=h
theorem aro(pair:Bool)(out:List Ins)(x:Ins)(r:List Ins)(d st:Nat)(h:je pair (out++x::r) d st=Z):je pair (lG out x++r) d st=Z:=by
 rcases ZU out x with g|⟨pre,y,v,rfl,hy,ht,hp,hv,g⟩|⟨pre,y,z,v,rfl,hy,hz,ht,hp,hv,g⟩;·rw[g];simpa using h
 ·rw[g];simp only[xw,o6,wF] at h |-;refine ahC pair aG ?_ pre d st h;intro d st h;have ho:=ahE ht hp;simp only[je,hy,ht,hp,bq,decide_eq_true_eq,beq_iff_eq,kI] at h |-;have hr:r≠ []:=by intro e;have:=h.2.1.1.1.1.2;rw[e] at this;simp at this;omega
  have h1:=h.2.2;exact ahG
 rw[g];simp only[xw,o6,wF] at h |-;refine ahC pair aG ?_ pre d st h;intro d st h;have ho:=ahF ht;simp only[je,hy,hz,ht,hp,bq,decide_eq_true_eq,beq_iff_eq,kI] at h |-;have hr:r≠ []:=by intro e;have:=h.2.2.1.1.1.1.2;rw[e] at this;simp at this;omega
 have h1:=h.2.2.2;exact ahG
theorem arp(pair:Bool)(d st:Nat):∀(is out:List Ins),je pair (out++is) d st=Z->je pair (is.foldl lG out) d st=Z:=by
 intro is;induction is with
 |nil=>intro out h;simpa using h
 |cons x is ih=>intro out h;rw[M8];exact ih _ (aro pair out x is d st h)
theorem ahH(out:List Ins)(x:Ins):lG out x≠ []:=by rcases ZU out x with g|⟨pre,y,v,rfl,_,_,_,_,g⟩|⟨pre,y,z,v,rfl,_,_,_,_,_,g⟩<;>rw[g]<;>simp
theorem arq:∀(is out:List Ins),out≠ []->is.foldl lG out≠ []:=by
 intro is;induction is with
 |nil=>intro out h;simpa using h
 |cons x is ih=>intro out h;rw[M8];exact ih _ (ahH out x)
theorem ars(pair:Bool)(is:List Ins)(h:oC pair is=Z):oC pair (wM is)=Z:=by
 unfold oC at h |-;simp only[bq,Bool.not_eq_true',List.isEmpty_eq_false_iff] at h |-;refine⟨?_,arp pair 0 0 is [] (by simpa using h.2)⟩;cases is with
 |nil=>exact absurd rfl h.1
 |cons x is=>exact arq is _ (ahH [] x)
theorem ahI(H:oZ h n=Z):(h.kind=1\/h.kind=20->(if h.kind=20 then 1 else 0)<=h.value/\h.value<=1000000000000)/\
  (h.kind=21\/h.kind=22->iw h.from_=Z/\iw h.az=Z):=by
 unfold oZ at H;simp only[bq,decide_eq_true_eq,beq_iff_eq] at H;obtain⟨⟨⟨h1,h2⟩,h3⟩,h4⟩:=H;refine⟨λg=>?_,λg=>?_⟩
 ·rcases g with g|g;·rw[if_pos g] at h4;simp only[bq,decide_eq_true_eq] at h4;rw[if_neg I];exact h4.1
  rw[if_neg I,if_neg I,if_pos g] at h4;simp only[bq,decide_eq_true_eq] at h4;rw[if_pos g];exact h4.1
 rw[if_neg I,if_neg I,if_neg I,if_pos g] at h4;simp only[bq] at h4;exact h4.1
theorem ahJ(h:R:=by
  simp only[fA,PO,zh,List.all_nil,RN] at ht;cases hq:fA ns pair a with
  |none=>rw[hq] at ht;simp at ht
  |some u=>cases hq':fA ns pair b with
   |none=>rw[hq'] at ht;simp at ht
   |some u'=>exact⟨⟨u,rfl⟩,⟨u',rfl⟩⟩):R:=h
theorem ahK(h:R:=by
  simp only[fA,PO,zh,List.all_nil,RN] at ht;cases hq:fA ns pair a with
  |none=>rw[hq] at ht;simp at ht
  |some u=>exact⟨u,rfl⟩):R:=h
theorem art(ns:List (List UInt8))(pair:Bool):∀(x:Ex) (r:List Ins) (d:Nat) (t:Int),eG x=Z->fA ns pair x=N t->r≠ []->
  je pair r (d+1) ns.length=Z->je pair (cE ns x++r) d ns.length=Z:=by
 intro x;induction x with
 |lf h=>
  intro r d t ho ht hr hk;have lD:=PQ ho;obtain⟨wG,Gb⟩:=ahI ho;rcases lD with e|e|e|e;·have h1:=wG (.inl e);rw[if_neg I] at h1;have h2:bX h.value=Z:=afi;simp[cE,e,je,hr,kI,dZ,ji,h2,hk]
  ·simp only[fA,e,if_pos] at ht;have hc:ns.contains h.name=Z:=by
    by_cases hc:ns.contains h.name=Z;·exact hc
    rw[if_neg hc] at ht;exact absurd ht aG
   have h2:ns.idxOf h.name<ns.length:=List.idxOf_lt_length_iff.2 U7;simp[cE,e,je,hr,kI,dZ,ji,h2,hk]
  ·obtain⟨h1,h2⟩:=Gb (.inl e);have h3:h.from_<=h.az:=by
    simp only[fA,e] at ht;by_cases g:h.az<h.from_;·simp[g] at ht
    omega
   simp[cE,e,je,hr,kI,dZ,ji,h1,h2,h3,hk]
  obtain⟨h1,h2⟩:=Gb (.inr e);have h3:h.from_<=h.az/\pair=Z:=by
   simp only[fA,e] at ht;by_cases g:h.az<h.from_;·simp[g] at ht
   cases pair with
   |true=>exact⟨I,rfl⟩
   |false=>simp at ht
  rw[h3.2] at hk |-;simp[cE,e,je,hr,kI,dZ,ji,h1,h2,h3.1,hk]
 |un h a ih=>
  intro r d t ho ht hr hk;simp only[eG,bq] at ho;have lD:=ND ho.1;obtain⟨wG,_⟩:=ahI ho.1;have CY:∃u,fA ns pair a=N u:=by exact ahK
  obtain⟨u,hu⟩:=CY;simp only[cE,xw,o6,wF];refine ih _ d u ho.2 hu aG ?_;rcases lD with e|e|e|e|e;·simp[e,nY,je,hr,kI,dZ,ji,hk]
  ·simp[e,nY,je,hr,kI,dZ,ji,hk]
  ·simp[e,nY,je,hr,kI,dZ,ji,hk]
  ·simp[e,nY,je,hr,kI,dZ,ji,hk]
  have h1:=wG (.inr e);rw[if_pos e] at h1;have h2:bX h.value=Z:=afi;simp[e,nY,je,hr,kI,dZ,ji,h2,h1.1,hk]
 |bi h a b qg vg=>
  intro r d t ho ht hr hk;simp only[eG,bq] at ho;have lD:=NF ho.1;have CY:(∃u,fA ns pair a=N u)/\∃u,fA ns pair b=N u:=by exact ahJ
  obtain⟨⟨u,hu⟩,⟨u',hu'⟩⟩:=CY;simp only[cE,xw,o6,wF];refine qg _ d u ho.2.1 hu aG ?_;refine vg _ (d+1) u' ho.2.2 hu' aG ?_;have h1:nY h.kind=h.kind+3:=afx;have h2:dZ (h.kind+3)=2:=by unfold dZ;rw[if_neg I,if_pos I]
  have h3:ji (h.kind+3)=1:=by unfold ji;rw[if_pos I]
  have h4:kI ⟨h.kind+3,0,0⟩ pair ns.length=Z:=by
   unfold kI;simp only
   repeat rw[if_neg I]
   rfl
  simp only[h1,je,h2,h3,h4,bq,decide_eq_true_eq,beq_iff_eq];refine⟨⟨⟨⟨⟨⟨I,I⟩,?_⟩,trivial⟩,I⟩,aG⟩,?_⟩
  ·have:h.kind+3≠26:=by omega
   simp[this,hr]
  have h5:h.kind+3≠23:=by omega
  simp only[if_neg h5];simpa using hk
theorem aru(cz:Int->Bool)(pair:Bool)(az:Int)(Il:iw az=Z):∀(l:List cZ) (ns:List (List UInt8)),l.all o5=Z->(qX cz pair ns l).isSome=Z->
  je pair (cS ns l++ [⟨26,az,0⟩]) 0 ns.length=Z:=by
 intro l;induction l with
 |nil=>intro ns _ _;simp[cS,je,kI,Il,dZ,ji]
 |cons s l ih=>
  intro ns ho hc;simp only[zh,bq] at ho;have hs:=ho.1;unfold o5 at hs;simp only[bq,decide_eq_true_eq] at hs;have hkind:s.kind=1\/s.kind=2\/s.kind=3/\iw s.dM=Z:=by
   by_cases g1:s.kind=1;·exact .inl g1
   by_cases g2:s.kind=2;·exact .inr (.inl g2)
   by_cases g3:s.kind=3;·rw[if_neg g1,if_neg g2,if_pos g3] at hs;simp only[bq] at hs;exact .inr (.inr ⟨g3,hs.1.1.2⟩)
   rw[if_neg g1,if_neg g2,if_neg g3] at hs;exact absurd hs.1.1 aG
  unfold qX at hc;have kZ:fA ns pair s.expr=N (if s.kind=2 then 2 else 1):=by
   by_cases h:fA ns pair s.expr=N (if s.kind=2 then 2 else 1);·exact h
   rw[if_neg h] at hc;simp at hc
  rw[if_pos kZ] at hc;simp only[cS,xw];refine art ns pair s.expr _ 0 _ hs.2 kZ (by rcases hkind with e|e|e<;>simp[e]) ?_;rcases hkind with hk|hk|⟨hk,ha⟩
  ·simp only[hk,if_pos] at hc |-;split at hc;·simp at hc
   have:=ih (ns++ [s.name]) ho.2 hc;simp only[eB,iP,pV] at this;simpa[je,kI,dZ,ji] using this
  ·simp only[hk] at hc |-;simp at hc |-;have:=ih ns ho.2 U7;simpa[je,kI,dZ,ji] using this
  simp only[hk] at hc |-;simp at hc |-;have hf:cz s.dM=Z:=by
   cases hf:cz s.dM with
   |true=>rfl
   |false=>rw[hf] at hc;simp at hc
  have:=ih ns ho.2 (by simp only[hf,if_pos] at hc;simpa using hc);simpa[je,kI,dZ,ji,ha] using this
theorem ahL(cz:Int->Bool)(r:di)(ho:jK r=Z)(hc:qj cz r=Z):oC r.pair (cR r)=Z:=by unfold jK at ho;unfold qj at hc;simp only[bq] at ho hc;have:=aru cz r.pair r.az ho.1.2 r.stmts [] ho.2 hc.1;simp only[pV] at this;unfold oC cR;simp[this]
theorem arv(M:Mc)(cz:Int->Bool)(pair:Bool)(az:Int)(Il:cz az=Z):∀(l:List cZ) (ns:List (List UInt8)) (env:List (List UInt8 × Int)) (ps:List (Int × Int)) (qs:List (Int × Int)) (u:Int),
  l.all o5=Z->(qX cz pair ns l).isSome=Z->(∀p∈ps,cz p.1=Z)->CX M l env ps az= .fin qs u->(∀p∈qs,cz p.1=Z)/\u=az:=by
 intro l;induction l with
 |nil=>intro ns env ps qs u _ _ hp h;simp only[CX,Out.fin.injEq] at h;rw[<-h.1,<-h.2];exact⟨hp,rfl⟩
 |cons s l ih=>
  intro ns env ps qs u ho hc hp h;simp only[zh,bq] at ho;unfold qX at hc;by_cases kZ:fA ns pair s.expr=N (if s.kind=2 then 2 else 1)
  ·rw[if_pos kZ] at hc;simp only[CX] at h;cases hv:kQ M env s.expr with
   |none=>rw[hv] at h;exact absurd h aG
   |some v=>
    rw[hv] at h;simp only at h;by_cases h1:s.kind=1
    ·simp only[if_pos h1] at h hc;split at hc;·simp at hc
     exact ih _ _ _ qs u ho.2 hc hp h
    simp only[if_neg h1] at h hc;by_cases h2:s.kind=2
    ·simp only[if_pos h2] at h;rw[if_neg I] at hc;split at h;·exact absurd h aG
     exact ih _ _ _ qs u ho.2 hc hp h
    simp only[if_neg h2] at h;have h3:s.kind=3:=by
     have hs:=ho.1;unfold o5 at hs;simp only[bq] at hs;by_cases g3:s.kind=3;·exact g3
     rw[if_neg h1,if_neg h2,if_neg g3] at hs;exact absurd hs.1.1 aG
    simp only[if_pos h3] at hc;split at hc
    ·refine ih _ _ _ qs u ho.2 hc ?_ h;intro p DX;rcases pW.1 DX with g|g;·exact hp p g
     simp only[lF] at g;subst g;assumption
    simp at hc
  rw[if_neg kZ] at hc;simp at hc
abbrev jf(n:Int):Int:=RowKit.wrap64 n
theorem acC(n:Int):∃k:Int,jf n=n+18446744073709551616*k:=by refine⟨-((n+9223372036854775808)/18446744073709551616),?_⟩;unfold jf RowKit.wrap64;omega
theorem ahM{n k:Int}(h:n=18446744073709551616*k):jf n=0:=by unfold jf RowKit.wrap64;omega
def mh(ps:List (Int × Int)):List (Int × Int):=ps.foldl (λm p=>jH m p.1 (jf (dX 0 m p.1+p.2))) []
def vH(ps:List (Int × Int)):Int:=ps.foldl (λs p=>jf (s+p.2)) 0
def AO(ps:List (Int × Int))(az:Int):List (Int × Int):=ps++ [(az,jf (-(vH ps)))]
def PR(x:Int):List Int->List Int
 | []=> [x]
 |y::r=>if x<y then x::y::r else y::PR x r
def nP(l:List Int):List Int:=l.foldr PR []
theorem ahN(x:Int)(l:List Int):(PR x l).Perm (x::l):=by
 induction l with
 |nil=>exact List.Perm.refl _
 |cons y r ih=>
  unfold PR;split;·exact List.Perm.refl _
  exact(ih.cons y).trans (List.Perm.swap x y r)
theorem JU(l:List Int):(nP l).Perm l:=by
 induction l with
 |nil=>exact List.Perm.refl _
 |cons y r ih=>exact(ahN y (nP r)).trans (ih.cons y)
theorem arw(x:Int):∀(l:List Int),l.Pairwise (· <= ·)->(PR x l).Pairwise (· <= ·):=by
 intro l;induction l with
 |nil=>intro _;simp[PR]
 |cons y r ih=>
  intro h;rw[List.pairwise_cons] at h;unfold PR;split
  ·rename_i vI;refine List.pairwise_cons.2 ⟨λa ha=>?_,List.pairwise_cons.2 h⟩;rcases jZ.1 ha with e|ha;·omega
   have:=h.1 a ha;omega
  rename_i vI;refine List.pairwise_cons.2 ⟨λa ha=>?_,ih h.2⟩;rcases jZ.1 ((ahN x r).mem_iff.1 ha) with e|ha;·omega
  exact h.1 a ha
theorem ahO(l:List Int):(nP l).Pairwise (· <= ·):=by
 induction l with
 |nil=>simp[nP]
 |cons y r ih=>exact arw y _ ih
theorem ahP{l s:List Int}(hp:s.Perm l)(hs:s.Pairwise (· <= ·)):s=nP l:=List.Perm.eq_of_pairwise (le:=(· <= ·)) (λa b _ _ h1 h2=>by omega) hs (ahO l) (hp.trans (JU l).symm)
def PS(ps:List (Int × Int))(az:Int):List (Int × Int):=
 ((nP ((mh (AO ps az)).map (·.1))).map λc=>(c,dX 0 (mh (AO ps az)) c)).filter λp=>decide (p.2≠0)
def acD(ps:List (Int × Int))(az:Int):Bool:=(nP ((mh (AO ps az)).map (·.1))).all λc=>bX (dX 0 (mh (AO ps az)) c)
theorem arx{l l':List Int}(h:l.Perm l'):l.sum=l'.sum:=by
 induction h with
 |nil=>rfl
 |cons x _ ih=>simp only[NH,ih]
 |swap x y l=>simp only[NH];omega
 |trans _ _ h1 h2=>exact h1.trans h2
theorem ary(v:Int)(k:Int):∀(l:List (Int × Int)),(l.map (·.1)).Nodup->((jH l k v).map (·.2)).sum=(l.map (·.2)).sum-dX 0 l k+v:=by
 intro l;induction l with
 |nil=>intro _;simp[jH,dX]
 |cons p r ih=>
  intro hn;rw[kE,List.nodup_cons] at hn;unfold jH dX;by_cases h:p.1=k;·rw[if_pos h,if_pos h];simp only[kE,NH];omega
  rw[if_neg h,if_neg h];simp only[kE,NH,ih hn.2];omega
theorem ahQ(ps:List (Int × Int)):∀(m:List (Int × Int)),(m.map (·.1)).Nodup->
  ((ps.foldl (λm p=>jH m p.1 (jf (dX 0 m p.1+p.2))) m).map (·.1)).Nodup/\
  (∃k:Int,((ps.foldl (λm p=>jH m p.1 (jf (dX 0 m p.1+p.2))) m).map (·.2)).sum=(m.map (·.2)).sum+(ps.map (·.2)).sum+18446744073709551616*k)/\
  (∀c,c∈(ps.foldl (λm p=>jH m p.1 (jf (dX 0 m p.1+p.2))) m).map (·.1)↔c∈m.map (·.1)\/c∈ps.map (·.1)):=by
 induction ps with
 |nil=>intro m hn;exact⟨hn,⟨0,aG⟩,λc=>by simp⟩
 |cons p ps ih=>
  intro m hn;obtain⟨h1,⟨k,h2⟩,h3⟩:=ih (jH m p.1 (jf (dX 0 m p.1+p.2))) (aq2 hn);rw[M8];refine⟨h1,?_,?_⟩;·obtain⟨j,hj⟩:=acC (dX 0 m p.1+p.2);refine⟨k+j,?_⟩;rw[h2,ary _ _ _ hn,hj];simp only[kE,NH];omega
  intro c;rw[h3,aq3];simp only[kE,jZ];constructor
  ·rintro((h|h)|h);·exact .inr (.inl h)
   ·exact .inl h
   exact .inr (.inr h)
  rintro(h|h|h);·exact .inl (.inr h)
  ·exact .inl (.inl h)
  exact .inr h
theorem arz(ps:List (Int × Int)):∀s:Int,∃k:Int,ps.foldl (λs p=>jf (s+p.2)) s=s+(ps.map (·.2)).sum+18446744073709551616*k:=by
 induction ps with
 |nil=>intro s;exact⟨0,aG⟩
 |cons p ps ih=>intro s;obtain⟨k,hk⟩:=ih (jf (s+p.2));obtain⟨j,hj⟩:=acC (s+p.2);refine⟨k+j,?_⟩;rw[M8,hk,hj];simp only[kE,NH];omega
theorem get_map:∀(l:List (Int × Int)),(l.map (·.1)).Nodup->(l.map (·.1)).map (dX 0 l)=l.map (·.2):=by
 intro l hn;apply List.ext_getElem?;intro j;simp only[xy];cases hj:l[j]? with
 |none=>rfl
 |some p=>simp only[qh];rw[acy 0 hn hj rfl]
theorem arA:∀(l:List (Int × Int)),((l.filter λp=>decide (p.2≠0)).map (·.2)).sum=(l.map (·.2)).sum:=by
 intro l;induction l with
 |nil=>rfl
 |cons p r ih=>
  rw[List.filter_cons];split;·simp only[kE,NH,ih]
  rename_i h;have:p.2=0:=CB;simp only[kE,NH,ih,this];omega
theorem arB(ps:List (Int × Int))(az:Int):∃k:Int,((PS ps az).map (·.2)).sum=18446744073709551616*k:=by
 obtain⟨h1,⟨k,h2⟩,_⟩:=ahQ (AO ps az) [] aG;obtain⟨j,hj⟩:=arz ps 0;obtain⟨i,hi⟩:=acC (-(vH ps));refine⟨k-j+i,?_⟩;have e1:((PS ps az).map (·.2)).sum=((mh (AO ps az)).map (·.2)).sum:=by unfold PS;rw[arA,List.map_map];have:((nP ((mh (AO ps az)).map (·.1))).map ((·.2) ∘ λc=>(c,dX 0 (mh (AO ps az)) c)))=(nP ((mh (AO ps az)).map (·.1))).map (dX 0 (mh (AO ps az))):=rfl;rw[this,arx ((JU _).map _)];rw[get_map (mh (AO ps az)) h1]
 rw[e1];unfold mh;rw[h2];unfold AO;rw[oM,List.sum_append_int];simp only[kE,List.map_nil,NH,List.sum_nil,hi];unfold vH;rw[hj];omega
theorem arC(ps:List (Int × Int))(az:Int)(P:Int->Prop)(Il:P az)(hp:∀p∈ps,P p.1):∀q∈PS ps az,P q.1:=by
 intro q hq;obtain⟨_,_,h3⟩:=ahQ (AO ps az) [] aG;unfold PS at hq;obtain⟨c,hc,rfl⟩:=qw.1 (List.mem_filter.1 hq).1;have h4:=(h3 c).1 ((JU _).mem_iff.1 hc);rcases h4 with h4|h4;·simp at h4
 unfold AO at h4;rw[oM,pW] at h4;rcases h4 with h4|h4;·obtain⟨p,DX,rfl⟩:=qw.1 h4;exact hp p DX
 simp at h4;rw[h4];exact Il
end Go.Proofs.YtgnflmdpalmejaaGreatDoor
