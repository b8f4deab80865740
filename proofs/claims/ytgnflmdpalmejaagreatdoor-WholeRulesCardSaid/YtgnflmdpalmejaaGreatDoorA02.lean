/- Lemmas for the proof of WholeRules (the card is in the file ..WholeRulesCard); each lemma names its own conditions. -/
import Derived.Test.YtgnflmdpalmejaaGreatDoorA01
namespace Go.Proofs.YtgnflmdpalmejaaGreatDoor
open And renaming intro->bI
open _root_.Array renaming getElem?_eq_some_iff->JQ
open Bool renaming and_eq_true->bq,eq_iff_iff->FH,false->X,false_eq_true->lK,true->Z
open Go.Act renaming put->uB
open Go renaming Addr->aK,Calls->aF,TypeId->bM,Value->ak,World->Y,bodyPost_ret->eX,ownsRow_setCell_other->mO,wp_region_held_drew->iA
open Go.AllReadyH renaming cons->Hg,nil->RL
open Go.Calls renaming quiet_of_same->Ph
open Go.Ending renaming returned->aI
open Go.Instr renaming index->KW
open Go.IntKind renaming i64->D
open Go.Obj renaming cells->ag
open Go.Region renaming ready->RJ
open Go.RowKit renaming Below->aj
open Go.RowKit.Below renaming heap_alloc->nK,heap_setCell->jm,refl->aN
open Go.Value renaming agg->aD,bool->ax,int->C,pointer->aQ,slice->O,string->au,tuple->bz
open Go.World renaming cell?->M6,cell?_alloc_lt->Rn,cell?_of_block->He,ownsRow_nil->ng,size_alloc->aW,size_setCell->wh
open Inhabited renaming default->ay
open List renaming all_cons->zh,drop_eq_nil_iff->JC,flatten_cons->Sr,getD->dO,getD_cons_zero->Ih,getElem?_cons_succ->iX,getElem?_cons_zero->iI,getElem?_toArray->iH,getElem_cons_succ->uE,getElem_cons_zero->uD,getElem_mem->rF,getElem_toArray->uC,length_append->eB,length_cons->iP,length_drop->MM,length_map->oz,length_singleton->mf,length_take->xq,map_append->oM,map_cons->kE,mem_append->pW,mem_cons->jZ,mem_cons_of_mem->F8,mem_map->qw,mem_singleton->lF,not_mem_nil->nJ,setIfInBounds_toArray->pY,set_cons_succ->oP,set_cons_zero->oh,take_of_length_le->o7,take_succ_eq_append_getElem->sD
open List.cons renaming injEq->F6
open Nat renaming add_zero->mZ,eq_zero_or_pos->sw,le_refl->aC,le_trans->ja,lt_of_lt_of_le->yA,lt_or_ge->jl
open Option renaming bind_some->bZ,map_some->qh,none->J,some->N
open Option.some renaming injEq->kH
open Prod.mk renaming injEq->xL
open Go.Proofs.Tryz renaming prog->aa
open Go.RowKit Go.Lib Go.Proofs.Tryz
set_option maxRecDepth 100000
set_option maxHeartbeats 32000000
set_option linter.unusedVariables false
set_option linter.unusedSimpArgs false
variable{A:Option aK}{B base c g gp i k k' k1 k2 k3 k4 k5 n nl q:Nat}{R:Prop}{S':Nat->Prop}{az hi kd lo:Int}{b1 b2 b3 b4 b5 bad pr:Bool}{nm s:List UInt8}{r:di}{tmps:Array ak}{ts:List Tok}{v:ak}{w w':Y}{x:Ex}{xs:List ak}
theorem K7{a b c d e f:ak}(h:ai w q 128 #[a,b,c,d,e,f])(h0:tmps.getD 2 undef=aQ q):(results f250 tmps).run aa w= .ok (aD #[a,b,c,d,e,f]) w:=results_cell_row results250 tmps w q 128 #[a,b,c,d,e,f] (0,0) _ h0 h underlying128 rfl dh
theorem qQ(hs:s≠ []):k<=(dP ts s (k,bad)).1/\((dP ts s (k,bad)).2=X->bad=X/\(dP ts s (k,bad)).1=k+1/\eF s ((aZ ts).drop k)=N ((aZ ts).drop (k+1)))/\((dP ts s (k,bad)).2=Z->bad=Z\/eF s ((aZ ts).drop k)=J):=by
 unfold dP;cases bad
 ·simp only[lK,if_false];cases iE:(pk ts k X==s)<;>simp only[lK,if_false,if_true]
  ·refine⟨aC _,λq=>(by simp at q),λ_=> .inr ?_⟩;rcases jl k ts.length with h1|h1;·rw[Pp h1];rw[Nj h1,beq_eq_false_iff_ne] at iE;simp only[eF];rw[if_neg iE]
   rw[show(aZ ts).drop k= [] from JC.2 (by simpa[aZ] using h1)];rfl
  refine⟨Nat.le_succ _,λ_=>⟨Y0,Y0,?_⟩,λq=>(by simp at q)⟩;rw[beq_iff_eq] at iE;have h1:k<ts.length:=by
   rcases jl k ts.length with h1|h1;·exact h1
   rw[JE h1] at iE;exact absurd iE.symm hs
  rw[Pp h1];rw[Nj h1] at iE;simp only[eF];rw[if_pos iE]
 exact⟨aC _,λq=>(by simp at q),λ_=> .inl rfl⟩
section
variable{w:Y}{g B:Nat}{Al:Option aK}{nl cl:Nat}{ts:List Tok}{e:Int}{k:Nat}{bad:Bool}
theorem xJ(h:Ps w g B Al nl cl ts e k bad)(s:List UInt8)(hs:s≠ []):aF aa 142 #[aQ g,O w 1 1] (w.alloc (ag #[s] 9)) λe' w'=>e'=aI (bz #[])/\Ps w' g B Al nl cl ts e (dP ts s (k,bad)).1 (dP ts s (k,bad)).2/\But g w w':=by have hb:=(aN w w).alloc (aC _) (ag #[s] 9);have hl:=h.lt;refine(agw (h.go hb) [s] w 1 (ai.new w _ _) I (by simpa using hs) aG).mono ?_;rintro e' w' ⟨rfl,h1,h2⟩;exact⟨rfl,h1,(But.of hb).tr h2⟩
theorem VC(n:Nat)(ts:List Tk)(s:List UInt8)(h:bN ts=s)(h0:s≠ []):pE (n+1) .iU ts=
  if s= [40] then(pE n (.bG 0) ts.tail).bind λq=>(eF [41] q.2).map λr=>(q.1,r)
  else if s=oQ\/s=mY then(eF [40] ts.tail).bind λr0=>(pE n (.bG 0) r0).bind λq=>(eF [44] q.2).bind λr1=>(pE n (.bG 0) r1).bind λq'=>(eF [41] q'.2).map λr2=>(.bi (hk (if s=mY then 11 else 10)) q.1 q'.1,r2)
  else if s=qc\/s=nL then(eF [40] ts.tail).bind λr0=>(pE n (.bG 0) r0).bind λq=>(eF [41] q.2).map λr1=>(.un (hk (if s=nL then 5 else 4)) q.1,r1)
  else if s=qE\/s=oU then CJ (if s=oU then 22 else 21) ts.tail
  else match ts with
   | []=>J
   |t::_=>if t.1=2 then(tH 0 1000000000000 ts).map λv=>(.lf ⟨1,v.1,0,0,[]⟩,v.2) else(wD ts).map λv=>(.lf ⟨2,0,0,0,v.1⟩,v.2):=by
 subst h;cases ts with
 |nil=>exact absurd rfl h0
 |cons t r=>simp only[pE];rw[if_neg h0]
theorem agU(h:R:=by simp only[bZ];rw[c,b];exact⟨Y0,I,Y0⟩):R:=h
theorem jP.paren(hs:pk ts k X= [40])(h:jP n (.bG 0) ts (k+1) X x k1 b1):jP (n+1) .iU ts k X x (dP ts [41] (k1,b1)).1 (dP ts [41] (k1,b1)).2:=by
 obtain⟨h1,h2,h3⟩:=h;obtain⟨g0,g1,g2⟩:=qQ (ts:=ts) (s:= [41]) (k:=k1) (bad:=b1) aG;have e:=VC n ((aZ ts).drop k) [40] hs aG;rw[if_pos rfl,Ai] at e;refine⟨I,λq=>?_,λq=>?_⟩;·obtain⟨a,b,c⟩:=g1 q;obtain⟨_,b2,c2⟩:=h2 a;rw[e,c2];exact agU
 rcases g2 q with a|a
 ·rcases h3 a with b|b;·cases b
  exact .inr (by rw[e,b];rfl)
 cases b1;·obtain⟨_,_,c2⟩:=h2 rfl;exact .inr (by rw[e,c2];simp only[bZ];rw[a];rfl)
 rcases h3 rfl with b|b;·cases b
 exact .inr (by rw[e,b];rfl)
theorem jP.call(hs:pk ts k X=s)(hw:s=qc/\kd=4\/s=nL/\kd=5)(h:jP n (.bG 0) ts (dP ts [40] (k+1,X)).1 (dP ts [40] (k+1,X)).2 x k1 b1):jP (n+1) .iU ts k X (.un (hk kd) x) (dP ts [41] (k1,b1)).1 (dP ts [41] (k1,b1)).2:=by
 obtain⟨f0,f1,f2⟩:=qQ (ts:=ts) (s:= [40]) (k:=k+1) (bad:=X) aG;generalize dP ts [40] (k+1,X)=q0 at*;obtain⟨k0,b0⟩:=q0;simp only[] at f0 f1 f2 h;obtain⟨h1,h2,h3⟩:=h;obtain⟨g0,g1,g2⟩:=qQ (ts:=ts) (s:= [41]) (k:=k1) (bad:=b1) aG;have e:pE (n+1) .iU ((aZ ts).drop k)=(eF [40] ((aZ ts).drop (k+1))).bind λr0=>(pE n (.bG 0) r0).bind λq=>(eF [41] q.2).map λr1=>(.un (hk kd) q.1,r1):=by
  have e:=VC n ((aZ ts).drop k) s hs afF;rcases hw with⟨rfl,rfl⟩|⟨rfl,rfl⟩;·rw[if_neg aL,if_neg aL,if_pos (.inl rfl),Ai,if_neg aL] at e;exact e
  rw[if_neg aL,if_neg aL,if_pos (.inr rfl),Ai,if_pos rfl] at e;exact e
 have PG:b0=Z->pE (n+1) .iU ((aZ ts).drop k)=J:=λq=>by
  rcases f2 q with a|a;·cases a
  rw[e,a];rfl
 have JK:b1=Z->pE (n+1) .iU ((aZ ts).drop k)=J:=λq=>by
  rcases h3 q with b|b;·exact PG b
  cases b0;·obtain⟨a,a2,c⟩:=f1 rfl;subst a2;rw[e,c];simp only[bZ];rw[b];rfl
  exact PG rfl
 refine⟨I,λq=>?_,λq=>?_⟩;·obtain⟨a,b,c⟩:=g1 q;obtain⟨a2,b2,c2⟩:=h2 a;obtain⟨_,b3,c3⟩:=f1 a2;subst b3;rw[e,c3];simp only[bZ];rw[c2];exact agU
 right;rcases g2 q with a|a;·exact JK a
 cases b1;·obtain⟨a2,b2,c2⟩:=h2 rfl;obtain⟨_,b3,c3⟩:=f1 a2;subst b3;rw[e,c3];simp only[bZ];rw[c2];simp only[bZ];rw[a];rfl
 exact JK rfl
theorem apS(h:Ps w g B Al nl cl ts e k X)(n:Nat)(hF:20*(nl-k)+1<=n+1)(H:tN n w g B Al nl cl ts e nl)(hs:pk ts k X= []):aF aa 250 #[aQ g] w (qi (n+1) .iU w g B Al nl cl ts e k X):=by
 have aP:=G ((aN w w).alloc (aC _) (ag #[C D 0,C D 0,C D 0,C D 0,au ⟨#[]⟩,O J 0 0] 128));have jL:=G (ai.new w 128 #[C D 0,C D 0,C D 0,C D 0,au ⟨#[]⟩,O J 0 0]);have iJ:=G (h.go aP);have aO:=h.lt;have kF:=G (Hu iJ);have hE:pE (n+1) .iU ((aZ ts).drop k)=J:=by simp only[pE];rw[if_pos (show bN ((aZ ts).drop k)= [] from hs)]
 have HE:=G hE;rw[hs] at kF;clear h H hs hE;go_enter func250,ntmps250;go_wp2_with fail;refine kF.mono ?_;rintro e' wp ⟨rfl,lC⟩;have gY:=G (iJ.go lC);have D9:=G ((But.of (g:=g) aP).nM lC);have Eb:=G (jL.below lC aG);clear lC;go_wp2_with fail;refine(Pq gY).mono ?_;rintro e' wx ⟨rfl,hpx,uK⟩;have HRX:=G (Eb.but uK I);obtain⟨y0,y1,y2,y3,y4,y5⟩:=gW HRX;have iB:=HRX.frozen;have VD:=G hpx;have jw:=G (D9.tr uK);clear hpx uK;go_wp2_with fail;refine eX (K7 (vw (by exact HRX)) rfl) rfl ⟨.lf ⟨0,0,0,0,[]⟩,0,0,0,0,[],J,0,0,k,Z,rfl,rfl,rfl,VD.heap (λq hq=>ky q I),vz jw (aC _),aC _,(λq=>by cases q),λ_=> .inr HE⟩
theorem ZI(h:R:=by
  rcases jl k nl with h1|h1;·exact h1
  ·rw[JE abK] at hs;exact absurd hs aL):R:=h
theorem apT(h:Ps w g B Al nl cl ts e k X)(n:Nat)(hF:20*(nl-k)+1<=n+1)(H:tN n w g B Al nl cl ts e nl)(hs:pk ts k X= [40]):aF aa 250 #[aQ g] w (qi (n+1) .iU w g B Al nl cl ts e k X):=by
 have aP:=G ((aN w w).alloc (aC _) (ag #[C D 0,C D 0,C D 0,C D 0,au ⟨#[]⟩,O J 0 0] 128));have jL:=G (ai.new w 128 #[C D 0,C D 0,C D 0,C D 0,au ⟨#[]⟩,O J 0 0]);have iJ:=G (h.go aP);have aO:=h.lt;obtain⟨c0,c1,c2,c3⟩:=iJ.cells;have kF:=G (Hu iJ);have gH:=G h.len;have yx:=h.hn;have HH:=G H;have jc:=G hs;rw[hs] at kF;(try simp only[qc,nL,oQ,mY,qE,oU] at kF);clear h H;go_enter func250,ntmps250;go_wp2_with fail;refine kF.mono ?_;rintro e' wp ⟨rfl,lC⟩;have gY:=G (iJ.go lC);have D9:=G ((But.of (g:=g) aP).nM lC);have Eb:=G (jL.below lC aG);have Ia:w.heap.size<wp.heap.size:=Yy;obtain⟨d0,d1,d2,d3⟩:=gY.cells;have hfp:=gY.blk.frozen;have iR:k<nl:=by exact ZI
 have Vz:k<9000:=I;have HN:=gY.JF iR;have uI:=G (D9.tr HN.2);have jQ:=G (Eb.but HN.2 I);have ze:wp.heap.size<=(wp.setCell ⟨g,2,J⟩ (C D ((k:Int)+1))).heap.size:=aG;have qR:=G (HH.1 0 _ (k+1) X I I I HN.1);rw[show((0:Nat):Int)=0 from rfl] at qR;clear lC HN hs;go_wp2_with fail;refine qR.mono ?_;rintro e' Ib ⟨x1,Aw,Az,AA,AB,yC,A1,tV,tX,K8,bb1,o9,rfl,vD,xE,aB,JL⟩;have hsl1:=aB.size;have VE:=G ((uI).tr aB);have VF:=G (ai.but (k:=w.heap.size) jQ aB I);have Ic:=G (bI vD (bI JL o9));have nN:=G ((aN Ib Ib).alloc (aC _) (ag #[Aw,Az,AA,AB,yC,O A1 tV tX] 128));have nA:=G (ai.new Ib 128 #[Aw,Az,AA,AB,yC,O A1 tV tX]);have dW:=G (xJ (xE.go nN) [41] aG);clear vD xE aB JL o9;have Aj:=G (jP.paren jc Ic.2.1);have sM:=(qQ (ts:=ts) (s:= [41]) (k:=K8) (bad:=bb1) aG).1;generalize dP ts [41] (K8,bb1)=q1 at*;obtain⟨k2,b2⟩:=q1;simp only[] at dW Aj sM;rw[aW] at dW;go_wp2_with fail;refine dW.mono ?_;rintro e' w2 ⟨rfl,fH,aJ⟩;have fw:=aJ.size;rw[aW] at fw;have eu:=G (nA.but aJ I);have jy:=G ((VF.alloc (ag #[Aw,Az,AA,AB,yC,O A1 tV tX] 128)).but aJ I);have sI:=G fH;have aS:=G ((VE.nM nN).tr aJ);have HA2:af (eU w2 (λq=>w.heap.size<q/\q<w2.heap.size) x1 (O A1 tV tX)):=Ic.1.keep (λq hq=>(aJ.block q Rm zU).trans (nK _ _ q uu)) (λq hq=>⟨qO,uu⟩);obtain⟨x0,x1',x2,x3,x4,x5⟩:=gW eu;obtain⟨y0,y1,y2,y3,y4,y5⟩:=gW jy;have iB:=jy.frozen;clear fH aJ dW;go_wp2_with fail;refine eX (K7 (vw (by exact jy)) rfl) rfl ⟨x1,Aw,Az,AA,AB,yC,A1,tV,tX,k2,b2,Ic.2.2,rfl,?_,sI.heap (λq hq=>ky q I),vz aS (aC _),Aj⟩;exact HA2.keep (λq hq=>ky q qO) (λq hq=>⟨qO,YU⟩)
end
section
variable{w:Y}{g B:Nat}{Al:Option aK}{nl cl:Nat}{ts:List Tok}{e:Int}{k:Nat}{bad:Bool}
theorem agV(h:R:=by
  have aP:=G ((aN w w).alloc (aC _) (ag #[C D 0,C D 0,C D 0,C D 0,au ⟨#[]⟩,O J 0 0] 128));have jL:=G (ai.new w 128 #[C D 0,C D 0,C D 0,C D 0,au ⟨#[]⟩,O J 0 0]);have iJ:=G (h.go aP);have aO:=h.lt;obtain⟨c0,c1,c2,c3⟩:=iJ.cells;have kF:=G (Hu iJ);have gH:=G h.len;have yx:=h.hn;have HH:=G H;have jc:=G hs;rw[hs] at kF;(try simp only[qc,nL,oQ,mY,qE,oU] at kF);clear h H;go_enter func250,ntmps250;go_wp2_with fail;refine kF.mono ?_;rintro e' wp ⟨rfl,lC⟩;have gY:=G (iJ.go lC);have D9:=G ((But.of (g:=g) aP).nM lC);have Eb:=G (jL.below lC aG);have Ia:w.heap.size<wp.heap.size:=Yy;obtain⟨d0,d1,d2,d3⟩:=gY.cells;have hfp:=gY.blk.frozen;have iR:k<nl:=by exact ZI
  have Vz:k<9000:=I;have HN:=gY.JF iR;have zq:=G HN.1;have uI:=G (D9.tr HN.2);have jQ:=G (Eb.but HN.2 I);have ze:wp.heap.size<=(wp.setCell ⟨g,2,J⟩ (C D ((k:Int)+1))).heap.size:=aG;have dW:=G (xJ HN.1 [40] aG);have sM:=(qQ (ts:=ts) (s:= [40]) (k:=k+1) (bad:=X) aG).1;generalize dP ts [40] (k+1,X)=q1 at*;obtain⟨k2,b2⟩:=q1;simp only[] at dW sM Ns;clear lC HN hs;try simp only[wh] at dW
  go_wp2_with fail;refine dW.mono ?_;rintro e' w2 ⟨rfl,fH,aJ⟩;have fw:=aJ.size;have aS:=G (uI.tr aJ);have jy:=G (jQ.but aJ I);have sI:=G fH;have VG:w.heap.size<w2.heap.size:=I;have qR:=G (HH.1 0 w2 k2 b2 I I I fH);rw[show((0:Nat):Int)=0 from rfl] at qR;clear fH aJ dW;go_wp2_with fail;refine qR.mono ?_;rintro e' Ib ⟨x1,Aw,Az,AA,AB,yC,A1,tV,tX,K8,bb1,o9,rfl,vD,xE,aB,JL⟩;have hsl1:=aB.size;have VE:=G ((aS).tr aB);have VF:=G (ai.but (k:=w.heap.size) jy aB I);have apU:=G xE;have Ic:=G (bI vD (bI JL o9));have apV:=JL.1;have apW:=xE.hk;have nN:=G ((aN Ib Ib).alloc (aC _) (ag #[Aw,Az,AA,AB,yC,O A1 tV tX] 128));have nA:=G (ai.new Ib 128 #[Aw,Az,AA,AB,yC,O A1 tV tX]);have dW:=G (xJ (xE.go nN) [41] aG);clear vD xE aB JL o9;have Aj:=G (Ns _ _ _ Ic.2.1);have iL:=(qQ (ts:=ts) (s:= [41]) (k:=K8) (bad:=bb1) aG).1;generalize dP ts [41] (K8,bb1)=q2 at*;obtain⟨k3,b3⟩:=q2;simp only[] at dW Aj iL;rw[aW] at dW;go_wp2_with fail;refine dW.mono ?_;rintro e' w3 ⟨rfl,Ec,aR⟩;have fM:=aR.size;rw[aW] at fM;have fD:=G (nA.but aR I);have vE:=G ((VF.alloc (ag #[Aw,Az,AA,AB,yC,O A1 tV tX] 128)).but aR I);have Nt:=G Ec;have bC:=G ((VE.nM nN).tr aR);have HA3:af (eU w3 (λq=>w.heap.size<q/\q<w3.heap.size) x1 (O A1 tV tX)):=Ic.1.keep (λq hq=>(aR.block q Rm zU).trans (nK _ _ q uu)) (λq hq=>⟨qO,uu⟩);obtain⟨x0,x1',x2,x3,x4,x5⟩:=gW fD;obtain⟨y0,y1,y2,y3,y4,y5⟩:=gW vE;obtain⟨z0,z1,z2,z3,z4,z5⟩:=gW (vE.alloc (ag #[Aw,Az,AA,AB,yC,O A1 tV tX] 128));have iB:=vE.frozen;have apX:=(vE.alloc (ag #[Aw,Az,AA,AB,yC,O A1 tV tX] 128)).frozen;clear Ec aR dW;go_wp2_with fail;refine eX (K7 (vw (by exact vE.alloc _)) rfl) rfl ⟨.un (hk _) x1,_,0,0,0,[],N ⟨w3,0,J⟩,1,1,k3,b3,rfl,rfl,⟨w3.heap.size,O A1 tV tX,rfl,⟨I,MH⟩,?_,?_⟩,(Nt.go ((aN _ _).alloc (aC _) _)).heap (λq hq=>ky q I),vz (bC.alloc _) (aC _),Aj⟩;·rw[Ic.E.2.2];exact KX (ai.new w3 _ _) I
  ·exact HA3.keep (λq hq=>(ky q qO).trans (nK _ _ q uu)) (λq hq=>⟨qO,OT⟩)):R:=h
theorem apY(h:Ps w g B Al nl cl ts e k X)(n:Nat)(hF:20*(nl-k)+1<=n+1)(H:tN n w g B Al nl cl ts e nl)(hs:pk ts k X=qc):aF aa 250 #[aQ g] w (qi (n+1) .iU w g B Al nl cl ts e k X):=by have Ns:af (∀x k1 b1,jP n (.bG 0) ts (dP ts [40] (k+1,X)).1 (dP ts [40] (k+1,X)).2 x k1 b1->_):=λx k1 b1 hx=>jP.call (kd:=4) hs aL hx;exact agV
theorem apZ(h:Ps w g B Al nl cl ts e k X)(n:Nat)(hF:20*(nl-k)+1<=n+1)(H:tN n w g B Al nl cl ts e nl)(hs:pk ts k X=nL):aF aa 250 #[aQ g] w (qi (n+1) .iU w g B Al nl cl ts e k X):=by have Ns:af (∀x k1 b1,jP n (.bG 0) ts (dP ts [40] (k+1,X)).1 (dP ts [40] (k+1,X)).2 x k1 b1->_):=λx k1 b1 hx=>jP.call (kd:=5) hs aL hx;exact agV
end
section
variable{w:Y}{g B:Nat}{Al:Option aK}{nl cl:Nat}{ts:List Tok}{e:Int}{k:Nat}{bad:Bool}
theorem jP.mm{y:Ex}(hs:pk ts k X=s)(hw:s=oQ/\kd=10\/s=mY/\kd=11)(h:jP n (.bG 0) ts (dP ts [40] (k+1,X)).1 (dP ts [40] (k+1,X)).2 x k1 b1)(h':jP n (.bG 0) ts (dP ts [44] (k1,b1)).1 (dP ts [44] (k1,b1)).2 y k2 b2):jP (n+1) .iU ts k X (.bi (hk kd) x y) (dP ts [41] (k2,b2)).1 (dP ts [41] (k2,b2)).2:=by
 obtain⟨f0,f1,f2⟩:=qQ (ts:=ts) (s:= [40]) (k:=k+1) (bad:=X) aG;generalize dP ts [40] (k+1,X)=q0 at*;obtain⟨k0,b0⟩:=q0;simp only[] at f0 f1 f2 h;obtain⟨h1,h2,h3⟩:=h;obtain⟨m0,m1,m2⟩:=qQ (ts:=ts) (s:= [44]) (k:=k1) (bad:=b1) aG;generalize dP ts [44] (k1,b1)=q1 at*;obtain⟨k3,b3⟩:=q1;simp only[] at m0 m1 m2 h';obtain⟨p1,p2,p3⟩:=h';obtain⟨g0,g1,g2⟩:=qQ (ts:=ts) (s:= [41]) (k:=k2) (bad:=b2) aG;have e:pE (n+1) .iU ((aZ ts).drop k)=(eF [40] ((aZ ts).drop (k+1))).bind λr0=>(pE n (.bG 0) r0).bind λq=>(eF [44] q.2).bind λr1=>(pE n (.bG 0) r1).bind λq'=>(eF [41] q'.2).map λr2=>(.bi (hk kd) q.1 q'.1,r2):=by
  have e:=VC n ((aZ ts).drop k) s hs afF;rcases hw with⟨rfl,rfl⟩|⟨rfl,rfl⟩;·rw[if_neg aL,if_pos (.inl rfl),Ai,if_neg aL] at e;exact e
  rw[if_neg aL,if_pos (.inr rfl),Ai,if_pos rfl] at e;exact e
 have PG:b0=Z->pE (n+1) .iU ((aZ ts).drop k)=J:=λq=>by
  rcases f2 q with a|a;·cases a
  rw[e,a];rfl
 have ok0:b0=X->pE (n+1) .iU ((aZ ts).drop k)=(pE n (.bG 0) ((aZ ts).drop k0)).bind λq=>(eF [44] q.2).bind λr1=>(pE n (.bG 0) r1).bind λq'=>(eF [41] q'.2).map λr2=>(.bi (hk kd) q.1 q'.1,r2):=λq=>by obtain⟨a,a2,c⟩:=f1 q;subst a2;rw[e,c];rfl
 have JK:b1=Z->pE (n+1) .iU ((aZ ts).drop k)=J:=λq=>by
  rcases h3 q with b|b;·exact PG b
  cases b0;·rw[ok0 rfl,b];rfl
  exact PG rfl
 have ok1:b1=X->b0=X/\k0<k1/\pE (n+1) .iU ((aZ ts).drop k)=(eF [44] ((aZ ts).drop k1)).bind λr1=>(pE n (.bG 0) r1).bind λq'=>(eF [41] q'.2).map λr2=>(.bi (hk kd) x q'.1,r2):=λq=>by obtain⟨a,a2,c⟩:=h2 q;exact⟨a,a2,by rw[ok0 a,c];rfl⟩
 have agW:b3=Z->pE (n+1) .iU ((aZ ts).drop k)=J:=λq=>by
  rcases m2 q with a|a;·exact JK a
  cases b1;·rw[(ok1 rfl).2.2,a];rfl
  exact JK rfl
 have ok3:b3=X->b1=X/\k3=k1+1/\pE (n+1) .iU ((aZ ts).drop k)=(pE n (.bG 0) ((aZ ts).drop k3)).bind λq'=>(eF [41] q'.2).map λr2=>(.bi (hk kd) x q'.1,r2):=λq=>by obtain⟨a,a2,c⟩:=m1 q;subst a2;exact⟨a,rfl,by rw[(ok1 a).2.2,c];rfl⟩
 have Ie:b2=Z->pE (n+1) .iU ((aZ ts).drop k)=J:=λq=>by
  rcases p3 q with a|a;·exact agW a
  cases b3;·rw[(ok3 rfl).2.2,a];rfl
  exact agW rfl
 refine⟨I,λq=>?_,λq=> .inr ?_⟩;·obtain⟨a,b,c⟩:=g1 q;obtain⟨a2,b2',c2⟩:=p2 a;obtain⟨a3,a4,c3⟩:=ok3 a2;obtain⟨_,a6,_⟩:=ok1 a3;refine⟨rfl,I,?_⟩;rw[c3,c2];simp only[bZ];rw[c,b];rfl
 rcases g2 q with a|a;·exact Ie a
 cases b2;·obtain⟨a2,_,c2⟩:=p2 rfl;rw[(ok3 a2).2.2,c2];simp only[bZ];rw[a];rfl
 exact Ie rfl
theorem agX(h:R:=by
  have aP:=G ((aN w w).alloc (aC _) (ag #[C D 0,C D 0,C D 0,C D 0,au ⟨#[]⟩,O J 0 0] 128));have jL:=G (ai.new w 128 #[C D 0,C D 0,C D 0,C D 0,au ⟨#[]⟩,O J 0 0]);have iJ:=G (h.go aP);have aO:=h.lt;obtain⟨c0,c1,c2,c3⟩:=iJ.cells;have kF:=G (Hu iJ);have gH:=G h.len;have yx:=h.hn;have HH:=G H;have jc:=G hs;rw[hs] at kF;(try simp only[qc,nL,oQ,mY,qE,oU] at kF);clear h H;go_enter func250,ntmps250;go_wp2_with fail;refine kF.mono ?_;rintro e' wp ⟨rfl,lC⟩;have gY:=G (iJ.go lC);have D9:=G ((But.of (g:=g) aP).nM lC);have Eb:=G (jL.below lC aG);have Ia:w.heap.size<wp.heap.size:=Yy;obtain⟨d0,d1,d2,d3⟩:=gY.cells;have hfp:=gY.blk.frozen;have iR:k<nl:=by exact ZI
  have Vz:k<9000:=I;have HN:=gY.JF iR;have zq:=G HN.1;have uI:=G (D9.tr HN.2);have jQ:=G (Eb.but HN.2 I);have ze:wp.heap.size<=(wp.setCell ⟨g,2,J⟩ (C D ((k:Int)+1))).heap.size:=aG;have dW:=G (xJ HN.1 [40] aG);have sM:=(qQ (ts:=ts) (s:= [40]) (k:=k+1) (bad:=X) aG).1;generalize dP ts [40] (k+1,X)=q1 at*;obtain⟨k2,b2⟩:=q1;simp only[] at dW sM Ns;clear lC HN hs;try simp only[wh] at dW
  go_wp2_with fail;refine dW.mono ?_;rintro e' w2 ⟨rfl,fH,aJ⟩;have fw:=aJ.size;have aS:=G (uI.tr aJ);have jy:=G (jQ.but aJ I);have sI:=G fH;have VG:w.heap.size<w2.heap.size:=I;have qR:=G (HH.1 0 w2 k2 b2 I I I fH);rw[show((0:Nat):Int)=0 from rfl] at qR;clear fH aJ dW;go_wp2_with fail;refine qR.mono ?_;rintro e' Ib ⟨x1,Aw,Az,AA,AB,yC,A1,tV,tX,K8,bb1,o9,rfl,vD,xE,aB,JL⟩;have hsl1:=aB.size;have VE:=G ((aS).tr aB);have VF:=G (ai.but (k:=w.heap.size) jy aB I);have apU:=G xE;have Ic:=G (bI vD (bI JL o9));have apV:=JL.1;have apW:=xE.hk;have nN:=G ((aN Ib Ib).alloc (aC _) (ag #[Aw,Az,AA,AB,yC,O A1 tV tX] 128));have nA:=G (ai.new Ib 128 #[Aw,Az,AA,AB,yC,O A1 tV tX]);have dW:=G (xJ (xE.go nN) [44] aG);clear vD xE aB JL o9;have aco:=G (λy k2 b2=>Ns x1 y K8 bb1 k2 b2 Ic.2.1);have iL:=(qQ (ts:=ts) (s:= [44]) (k:=K8) (bad:=bb1) aG).1;generalize dP ts [44] (K8,bb1)=q2 at*;obtain⟨k3,b3⟩:=q2;simp only[] at dW aco iL;rw[aW] at dW;clear Ns;go_wp2_with fail;refine dW.mono ?_;rintro e' w3 ⟨rfl,Ec,aR⟩;have fM:=aR.size;rw[aW] at fM;have fD:=G (nA.but aR I);have vE:=G ((VF.alloc (ag #[Aw,Az,AA,AB,yC,O A1 tV tX] 128)).but aR I);have Nt:=G Ec;have bC:=G ((VE.nM nN).tr aR);have HA3:af (eU w3 (λq=>w.heap.size<q/\q<w3.heap.size) x1 (O A1 tV tX)):=Ic.1.keep (λq hq=>(aR.block q Rm zU).trans (nK _ _ q uu)) (λq hq=>⟨qO,uu⟩);have xK:=G (HH.1 0 w3 k3 b3 I I I Ec);rw[show((0:Nat):Int)=0 from rfl] at xK;clear Ec aR dW;go_wp2_with fail;refine xK.mono ?_;rintro e' VH ⟨x2,ou,lN,lQ,gQ,fQ,A2,wJ,wK,kk2,bb2,BH,rfl,o8,fH,aJ,tQ⟩;have hsl2:=aJ.size;have ap0:=G ((bC).tr aJ);have ap1:=G (ai.but (k:=w.heap.size) vE aJ I);have agY:=G fH;have acp:=G (bI o8 (bI tQ BH));have aCJ:=tQ.1;have hkb2:=fH.hk;have sN:=G ((fD.but aJ I).alloc (ag #[ou,lN,lQ,gQ,fQ,O A2 wJ wK] 128));have HA4:af (eU (VH.alloc (ag #[ou,lN,lQ,gQ,fQ,O A2 wJ wK] 128)) (λq=>w.heap.size<q/\q<VH.heap.size) x1 (O A1 tV tX)):=HA3.keep (λq hq=>(nK _ _ q uu).trans (aJ.block q hq.2 zU)) (λq hq=>⟨hq.1,uu⟩);have agZ:=G ((aN VH VH).alloc (aC _) (ag #[ou,lN,lQ,gQ,fQ,O A2 wJ wK] 128));have ZJ:=G (ai.new VH 128 #[ou,lN,lQ,gQ,fQ,O A2 wJ wK]);have dW:=G (xJ (fH.go agZ) [41] aG);clear o8 fH aJ tQ BH;have Aj:=G (aco _ _ _ acp.2.1);have pg:=(qQ (ts:=ts) (s:= [41]) (k:=kk2) (bad:=bb2) aG).1;generalize dP ts [41] (kk2,bb2)=q3 at*;obtain⟨k4,b4⟩:=q3;simp only[] at dW Aj pg;rw[aW] at dW;clear aco;go_wp2_with fail;refine dW.mono ?_;rintro e' w4 ⟨rfl,Ed,bu⟩;have rH:=bu.size;rw[aW] at rH;have Ee:=G (sN.but bu I);have HY5:=G (ZJ.but bu I);have CS:=G ((ap1.alloc (ag #[ou,lN,lQ,gQ,fQ,O A2 wJ wK] 128)).but bu I);have Nu:=G Ed;have fT:=G ((ap0.nM agZ).tr bu);have HA5:af (eU w4 (λq=>w.heap.size<q/\q<w4.heap.size) x1 (O A1 tV tX)):=HA4.keep (λq hq=>bu.block q Rm zU) (λq hq=>⟨hq.1,uu⟩);have K9:af (eU w4 (λq=>w.heap.size<q/\q<w4.heap.size) x2 (O A2 wJ wK)):=acp.1.keep (λq hq=>(bu.block q Rm zU).trans (nK _ _ q uu)) (λq hq=>⟨qO,uu⟩);obtain⟨x0,x1',x2',x3,x4,x5⟩:=gW Ee;obtain⟨u0,u1,u2,u3,u4,u5⟩:=gW HY5;obtain⟨y0,y1,y2,y3,y4,y5⟩:=gW CS;obtain⟨z0,z1,z2,z3,z4,z5⟩:=gW (CS.alloc (ag #[Aw,Az,AA,AB,yC,O A1 tV tX,ou,lN,lQ,gQ,fQ,O A2 wJ wK] 128));have iB:=CS.frozen;have apX:=(CS.alloc (ag #[Aw,Az,AA,AB,yC,O A1 tV tX,ou,lN,lQ,gQ,fQ,O A2 wJ wK] 128)).frozen;clear Ed bu dW;go_wp2_with fail;refine eX (K7 (vw (by exact CS.alloc _)) rfl) rfl ⟨.bi (hk _) x1 x2,_,0,0,0,[],N ⟨w4,0,J⟩,2,2,k4,b4,rfl,rfl,⟨w4.heap.size,O A1 tV tX,O A2 wJ wK,rfl,⟨I,MH⟩,?_,?_,?_⟩,(Nu.go ((aN _ _).alloc (aC _) _)).heap (λq hq=>ky q I),vz (fT.alloc _) (aC _),Aj⟩;·rw[Ic.E.2.2,acp.E.2.2];exact KX (ai.new w4 _ _) I
  ·exact HA5.keep (λq hq=>(ky q qO).trans (nK _ _ q uu)) (λq hq=>⟨qO,OT⟩)
  ·exact K9.keep (λq hq=>(ky q qO).trans (nK _ _ q uu)) (λq hq=>⟨qO,OT⟩)):R:=h
theorem ap2(h:Ps w g B Al nl cl ts e k X)(n:Nat)(hF:20*(nl-k)+1<=n+1)(H:tN n w g B Al nl cl ts e nl)(hs:pk ts k X=oQ):aF aa 250 #[aQ g] w (qi (n+1) .iU w g B Al nl cl ts e k X):=by have Ns:af (∀x y k1 b1 k2 b2,jP n (.bG 0) ts (dP ts [40] (k+1,X)).1 (dP ts [40] (k+1,X)).2 x k1 b1->jP n (.bG 0) ts (dP ts [44] (k1,b1)).1 (dP ts [44] (k1,b1)).2 y k2 b2->_):=λx y k1 b1 k2 b2 hx hy=>jP.mm (kd:=10) hs aL hx hy;exact agX
theorem ap3(h:Ps w g B Al nl cl ts e k X)(n:Nat)(hF:20*(nl-k)+1<=n+1)(H:tN n w g B Al nl cl ts e nl)(hs:pk ts k X=mY):aF aa 250 #[aQ g] w (qi (n+1) .iU w g B Al nl cl ts e k X):=by have Ns:af (∀x y k1 b1 k2 b2,jP n (.bG 0) ts (dP ts [40] (k+1,X)).1 (dP ts [40] (k+1,X)).2 x k1 b1->jP n (.bG 0) ts (dP ts [44] (k1,b1)).1 (dP ts [44] (k1,b1)).2 y k2 b2->_):=λx y k1 b1 k2 b2 hx hy=>jP.mm (kd:=11) hs aL hx hy;exact agX
end
theorem VI(aY:∀t∈ts,t.text≠ []):k<=(sJ ts k X).2.1/\((sJ ts k X).2.2=X->(sJ ts k X).2.1=k+1/\wD ((aZ ts).drop k)=N ((sJ ts k X).1,(aZ ts).drop (k+1)))/\((sJ ts k X).2.2=Z->wD ((aZ ts).drop k)=J):=by
 unfold sJ;by_cases h0:pk ts k X= []
 ·rw[if_pos h0];refine⟨aC _,λq=>yn,λ_=>?_⟩;rcases jl k ts.length with h1|h1
  ·rw[Nj h1] at h0;have e:ts.getD k ⟨0,[],0⟩=ts[k]:=by simp[dO,h1]
   rw[e] at h0;exact absurd h0 (aY _ (rF _))
  rw[show(aZ ts).drop k= [] from JC.2 (by simpa[aZ] using h1)];rfl
 rw[if_neg h0];obtain⟨_,hl⟩:=R8 h0;rw[Pp hl,Nj hl];generalize ts.getD k ⟨0,[],0⟩=t;by_cases h1:t.kind=1/\zi t.text=X;·rw[if_pos h1];refine⟨Nat.le_succ _,λ_=>⟨rfl,?_⟩,λq=>yn⟩;simp only[wD];rw[if_pos h1]
 rw[if_neg h1];refine⟨aC _,λq=>yn,λ_=>?_⟩;simp only[wD];rw[if_neg h1]
section
variable{w:Y}{g B:Nat}{Al:Option aK}{nl cl:Nat}{ts:List Tok}{e:Int}{k:Nat}{bad:Bool}
def acr(p:List UInt8):Prop:=p≠ []/\p≠ [40]/\p≠oQ/\p≠mY/\p≠qc/\p≠nL/\p≠qE/\p≠oU
theorem ag0(hp:acr (pk ts k X))(hl:k<ts.length):pE (n+1) .iU ((aZ ts).drop k)=if(ts.getD k ⟨0,[],0⟩).kind=2 then(tH 0 1000000000000 ((aZ ts).drop k)).map λv=>(.lf ⟨1,v.1,0,0,[]⟩,v.2) else(wD ((aZ ts).drop k)).map λv=>(.lf ⟨2,0,0,0,v.1⟩,v.2):=by obtain⟨h0,h1,h2,h3,h4,h5,h6,h7⟩:=hp;rw[Nj hl] at*;rw[Pp hl];exact ab2 h0 h1 h2 h3 h4 h5 h6 h7
theorem ap4(h:Ps w g B Al nl cl ts e k X)(n:Nat)(hF:20*(nl-k)+1<=n+1)(H:tN n w g B Al nl cl ts e nl)(nC:acr (pk ts k X))(lD:(ts.getD k ⟨0,[],0⟩).kind=2):aF aa 250 #[aQ g] w (qi (n+1) .iU w g B Al nl cl ts e k X):=by
 have aP:=G ((aN w w).alloc (aC _) (ag #[C D 0,C D 0,C D 0,C D 0,au ⟨#[]⟩,O J 0 0] 128));have jL:=G (ai.new w 128 #[C D 0,C D 0,C D 0,C D 0,au ⟨#[]⟩,O J 0 0]);have iJ:=G (h.go aP);have aO:=h.lt;obtain⟨c0,c1,c2,c3⟩:=iJ.cells;obtain⟨h0,h1,h2,h3,h4,h5,h6,h7⟩:=nC;have Nv:∀t∈ts,t.text≠ []:=λt ht=>(h.ok t ht).1;have kF:=G (Hu iJ);have gH:=G h.len;have iR:k<nl:=by have:=(R8 h0).2;have:=h.len;omega
 have PH:=G (ag0 (n:=n) (ts:=ts) (k:=k) ⟨h0,h1,h2,h3,h4,h5,h6,h7⟩ (by rw[gH.E];exact iR));have q2:(k:Int)<(nl:Int):=I;obtain⟨ad,rfl,tL,t0,-,-⟩:=h.rd.Po iR;have FP:=h.hB;generalize(ts.getD k ⟨0,[],0⟩).kind=ZK at*;generalize pk ts k X=p at*;have e0:(p== [])=X:=UW;have e0':p.isEmpty=X:=by cases p with
  |nil=>exact absurd rfl h0
  |cons=>rfl
 have e1:(p== [40])=X:=by rw[beq_eq_false_iff_ne];exact h1
 have e2:(p== [109,105,110])=X:=by rw[beq_eq_false_iff_ne];exact h2
 have e3:(p== [109,97,120])=X:=YJ;have e4:(p== [97,98,115])=X:=by rw[beq_eq_false_iff_ne];exact h4
 have e5:(p== [115,104,97,114,101])=X:=by rw[beq_eq_false_iff_ne];exact h5
 have e6:(p== [98,97,108,97,110,99,101])=X:=abD;have e7:(p== [112,97,114,116,110,101,114])=X:=by rw[beq_eq_false_iff_ne];exact h7
 clear h0 h1 h2 h3 h4 h5 h6 h7 h H c0 c1 c2 c3;have qF:(ZK==2)=Z:=by rw[beq_iff_eq];exact lD
 subst lD;have dI:=G (PD (ts:=ts) (lo:=0) (hi:=1000000000000) (k:=k) (bad:=X));have xI:=G (Nq (ts:=ts) (lo:=0) (hi:=1000000000000) (k:=k) (bad:=X));have JJ:af (∀W,Ps W g B (N ad) nl cl ts e k X->_):=λW hW=>acg hW 0 1000000000000;generalize kL ts 0 1000000000000 k X=q at*;obtain⟨nv,k2,b2⟩:=q;simp only[] at dI xI JJ;clear Nv;have Aj:af (jP (n+1) .iU ts k X (.lf ⟨1,nv,0,0,[]⟩) k2 b2):=by
  refine⟨xI,λq=>?_,λq=> .inr ?_⟩;·obtain⟨_,b,c⟩:=dI.1 q;subst b;refine⟨rfl,I,?_⟩;rw[PH.E,if_pos rfl,c];rfl
  rcases dI.2 q with a|a;·cases a
  rw[PH.E,if_pos rfl,a];rfl
 clear dI xI PH;go_enter func250,ntmps250;go_wp2_with fail;refine kF.mono ?_;rintro e' wp ⟨rfl,lC⟩;have gY:=G (iJ.go lC);have D9:=G ((But.of (g:=g) aP).nM lC);have Eb:=G (jL.below lC aG);obtain⟨d0,_,d2,_⟩:=gY.cells;have tt0:=(lC.cell (p:=ad.add (k*3)) afk).trans ((Rn w (ag #[C D 0,C D 0,C D 0,C D 0,au ⟨#[]⟩,O J 0 0] 128) _ E9).trans t0);clear lC t0;go_wp2_with fail;go_quiet(fail);go_wp2_with fail;refine(JJ _ (gY.drewN nq)).mono ?_;rintro e' wn ⟨rfl,ow,gX⟩;have jQ:=G ((Eb.drewN nq).but gX I);have zq:=G ow;have uI:=G ((D9.nM (below_drewN (aN _ _) nq)).tr gX);obtain⟨y0,y1,y2,y3,y4,y5⟩:=gW jQ;have iB:=jQ.frozen;clear ow gX;go_wp2_with fail;refine eX (K7 (vw (by exact jQ)) rfl) rfl ⟨.lf ⟨1,nv,0,0,[]⟩,1,nv,0,0,[],J,0,0,k2,b2,rfl,rfl,rfl,zq.heap (λq hq=>ky q I),vz uI (aC _),Aj⟩
theorem ap5(h:Ps w g B Al nl cl ts e k X)(n:Nat)(hF:20*(nl-k)+1<=n+1)(H:tN n w g B Al nl cl ts e nl)(nC:acr (pk ts k X))(lD:¬(ts.getD k ⟨0,[],0⟩).kind=2):aF aa 250 #[aQ g] w (qi (n+1) .iU w g B Al nl cl ts e k X):=by
 have aP:=G ((aN w w).alloc (aC _) (ag #[C D 0,C D 0,C D 0,C D 0,au ⟨#[]⟩,O J 0 0] 128));have jL:=G (ai.new w 128 #[C D 0,C D 0,C D 0,C D 0,au ⟨#[]⟩,O J 0 0]);have iJ:=G (h.go aP);have aO:=h.lt;obtain⟨c0,c1,c2,c3⟩:=iJ.cells;obtain⟨h0,h1,h2,h3,h4,h5,h6,h7⟩:=nC;have Nv:∀t∈ts,t.text≠ []:=λt ht=>(h.ok t ht).1;have kF:=G (Hu iJ);have gH:=G h.len;have iR:k<nl:=by have:=(R8 h0).2;have:=h.len;omega
 have PH:=G (ag0 (n:=n) (ts:=ts) (k:=k) ⟨h0,h1,h2,h3,h4,h5,h6,h7⟩ (by rw[gH.E];exact iR));have q2:(k:Int)<(nl:Int):=I;obtain⟨ad,rfl,tL,t0,-,-⟩:=h.rd.Po iR;have FP:=h.hB;generalize(ts.getD k ⟨0,[],0⟩).kind=ZK at*;generalize pk ts k X=p at*;have e0:(p== [])=X:=UW;have e0':p.isEmpty=X:=by cases p with
  |nil=>exact absurd rfl h0
  |cons=>rfl
 have e1:(p== [40])=X:=by rw[beq_eq_false_iff_ne];exact h1
 have e2:(p== [109,105,110])=X:=by rw[beq_eq_false_iff_ne];exact h2
 have e3:(p== [109,97,120])=X:=YJ;have e4:(p== [97,98,115])=X:=by rw[beq_eq_false_iff_ne];exact h4
 have e5:(p== [115,104,97,114,101])=X:=by rw[beq_eq_false_iff_ne];exact h5
 have e6:(p== [98,97,108,97,110,99,101])=X:=abD;have e7:(p== [112,97,114,116,110,101,114])=X:=by rw[beq_eq_false_iff_ne];exact h7
 clear h0 h1 h2 h3 h4 h5 h6 h7 h H c0 c1 c2 c3;have qF:(ZK==2)=X:=by rw[beq_eq_false_iff_ne];exact lD
 have acs:¬ZK=2:=lD;have dI:=G (VI (ts:=ts) Nv (k:=k));have xI:=G ((VI (ts:=ts) Nv (k:=k)).1);have JJ:af (∀W,Ps W g B (N ad) nl cl ts e k X->_):=λW hW=>ace hW;generalize sJ ts k X=q at*;obtain⟨nv,k2,b2⟩:=q;simp only[] at dI xI JJ;clear Nv;have Aj:af (jP (n+1) .iU ts k X (.lf ⟨2,0,0,0,nv⟩) k2 b2):=by
  refine⟨xI,λq=>?_,λq=> .inr ?_⟩;·obtain⟨b,c⟩:=dI.2.1 q;subst b;refine⟨rfl,I,?_⟩;rw[PH.E,if_neg acs,c];rfl
  rw[PH.E,if_neg acs,dI.E.2.2 q];rfl
 clear acs;clear dI xI PH;go_enter func250,ntmps250;go_wp2_with fail;refine kF.mono ?_;rintro e' wp ⟨rfl,lC⟩;have gY:=G (iJ.go lC);have D9:=G ((But.of (g:=g) aP).nM lC);have Eb:=G (jL.below lC aG);obtain⟨d0,_,d2,_⟩:=gY.cells;have tt0:=(lC.cell (p:=ad.add (k*3)) afk).trans ((Rn w (ag #[C D 0,C D 0,C D 0,C D 0,au ⟨#[]⟩,O J 0 0] 128) _ E9).trans t0);clear lC t0;go_wp2_with fail;go_quiet(fail);go_wp2_with fail;refine(JJ _ (gY.drewN nq)).mono ?_;rintro e' wn ⟨rfl,ow,gX⟩;have jQ:=G ((Eb.drewN nq).but gX I);have zq:=G ow;have uI:=G ((D9.nM (below_drewN (aN _ _) nq)).tr gX);obtain⟨y0,y1,y2,y3,y4,y5⟩:=gW jQ;have iB:=jQ.frozen;clear ow gX;go_wp2_with fail;refine eX (K7 (vw (by exact jQ)) rfl) rfl ⟨.lf ⟨2,0,0,0,nv⟩,2,0,0,0,nv,J,0,0,k2,b2,rfl,rfl,rfl,zq.heap (λq hq=>ky q I),vz uI (aC _),Aj⟩
end
def rA(kd:Int)(ts:List Tk):Option (Ex × List Tk):=(sG ts).bind λa=>(eF [46,46] a.2).bind λr2=>(sG r2).bind λb=>(eF [41] b.2).map λr3=>(.lf ⟨kd,0,a.1,b.1,[]⟩,r3)
def rB(kd v:Int)(ts:List Tk):Option (Ex × List Tk):=(sG ts).bind λb=>(eF [41] b.2).map λr3=>(.lf ⟨kd,0,v,b.1,[]⟩,r3)
theorem rg1(h:dP ts [40] (k,X)=(k1,b1)):k<=k1/\(b1=Z->CJ kd ((aZ ts).drop k)=J)/\(b1=X->CJ kd ((aZ ts).drop k)=rA kd ((aZ ts).drop k1)):=by
 obtain⟨g0,g1,g2⟩:=qQ (ts:=ts) (s:= [40]) (k:=k) (bad:=X) aG;rw[h] at g0 g1 g2;refine⟨g0,λq=>?_,λq=>?_⟩
 ·rcases g2 q with a|a;·cases a
  unfold CJ;rw[a];rfl
 obtain⟨_,b,c⟩:=g1 q;simp only[] at b;subst b;unfold CJ;rw[c];rfl
theorem rg2{v:Int}(h:kL ts 1 99999 k1 X=(v,k2,b2))(h':dP ts [46,46] (k2,b2)=(k3,b3)):k1<=k3/\(b3=Z->rA kd ((aZ ts).drop k1)=J)/\(b3=X->rA kd ((aZ ts).drop k1)=rB kd v ((aZ ts).drop k3)):=by
 obtain⟨m1,m2⟩:=PD (ts:=ts) (lo:=1) (hi:=99999) (k:=k1) (bad:=X);have m0:=Nq (ts:=ts) (lo:=1) (hi:=99999) (k:=k1) (bad:=X);rw[h] at m0 m1 m2;obtain⟨g0,g1,g2⟩:=qQ (ts:=ts) (s:= [46,46]) (k:=k2) (bad:=b2) aG;rw[h'] at g0 g1 g2;simp only[] at m0 m1 m2 g0 g1 g2;have Ie:b2=Z->rA kd ((aZ ts).drop k1)=J:=λq=>by
  rcases m2 q with a|a;·cases a
  unfold rA sG;rw[a];rfl
 refine⟨I,λq=>?_,λq=>?_⟩
 ·rcases g2 q with a|a;·exact Ie a
  cases b2;·obtain⟨_,b,c⟩:=m1 rfl;subst b;unfold rA sG;rw[c];simp only[bZ];rw[a];rfl
  exact Ie rfl
 obtain⟨a,b,c⟩:=g1 q;obtain⟨_,b',c'⟩:=m1 a;subst b';subst b;unfold rA rB sG;rw[c'];simp only[bZ];rw[c];rfl
theorem rg3{v u:Int}(h:kL ts 1 99999 k1 X=(u,k2,b2))(h':dP ts [41] (k2,b2)=(k3,b3)):k1<=k3/\(b3=Z->rB kd v ((aZ ts).drop k1)=J)/\(b3=X->rB kd v ((aZ ts).drop k1)=N (.lf ⟨kd,0,v,u,[]⟩,(aZ ts).drop k3)):=by
 obtain⟨m1,m2⟩:=PD (ts:=ts) (lo:=1) (hi:=99999) (k:=k1) (bad:=X);have m0:=Nq (ts:=ts) (lo:=1) (hi:=99999) (k:=k1) (bad:=X);rw[h] at m0 m1 m2;obtain⟨g0,g1,g2⟩:=qQ (ts:=ts) (s:= [41]) (k:=k2) (bad:=b2) aG;rw[h'] at g0 g1 g2;simp only[] at m0 m1 m2 g0 g1 g2;have Ie:b2=Z->rB kd v ((aZ ts).drop k1)=J:=λq=>by
  rcases m2 q with a|a;·cases a
  unfold rB sG;rw[a];rfl
 refine⟨I,λq=>?_,λq=>?_⟩
 ·rcases g2 q with a|a;·exact Ie a
  cases b2;·obtain⟨_,b,c⟩:=m1 rfl;subst b;unfold rB sG;rw[c];simp only[bZ];rw[a];rfl
  exact Ie rfl
 obtain⟨a,b,c⟩:=g1 q;obtain⟨_,b',c'⟩:=m1 a;subst b';subst b;unfold rB sG;rw[c'];simp only[bZ];rw[c];rfl
section
variable{w:Y}{g B:Nat}{Al:Option aK}{nl cl:Nat}{ts:List Tok}{e:Int}{k:Nat}{bad:Bool}
theorem ag1(h:R:=by
  have aP:=G ((aN w w).alloc (aC _) (ag #[C D 0,C D 0,C D 0,C D 0,au ⟨#[]⟩,O J 0 0] 128));have jL:=G (ai.new w 128 #[C D 0,C D 0,C D 0,C D 0,au ⟨#[]⟩,O J 0 0]);have iJ:=G (h.go aP);have aO:=h.lt;obtain⟨c0,c1,c2,c3⟩:=iJ.cells;have kF:=G (Hu iJ);have gH:=G h.len;have yx:=h.hn;have HH:=G H;have jc:=G hs;rw[hs] at kF;(try simp only[qc,nL,oQ,mY,qE,oU] at kF);clear h H;go_enter func250,ntmps250;go_wp2_with fail;refine kF.mono ?_;rintro e' wp ⟨rfl,lC⟩;have gY:=G (iJ.go lC);have D9:=G ((But.of (g:=g) aP).nM lC);have Eb:=G (jL.below lC aG);have Ia:w.heap.size<wp.heap.size:=Yy;obtain⟨d0,d1,d2,d3⟩:=gY.cells;have hfp:=gY.blk.frozen;have iR:k<nl:=by exact ZI
  have Vz:k<9000:=I;have HN:=gY.JF iR;have zq:=G HN.1;have uI:=G (D9.tr HN.2);have jQ:=G (Eb.but HN.2 I);have ze:wp.heap.size<=(wp.setCell ⟨g,2,J⟩ (C D ((k:Int)+1))).heap.size:=aG;have AJ:=G ((aN _ (wp.setCell ⟨g,2,J⟩ (C D ((k:Int)+1)))).alloc (aC _) (ag #[K,C D 0,C D (0),C D (0),au ⟨#[]⟩,O J 0 0] 128));rw[hK] at AJ;have dC:=G (ai.new (wp.setCell ⟨g,2,J⟩ (C D ((k:Int)+1))) 128 #[K,C D 0,C D (0),C D (0),au ⟨#[]⟩,O J 0 0]);rw[hK] at dC;have dW:=G (xJ (HN.1.go AJ) [40] aG);have ag2:=G (jQ.alloc (ag #[K,C D 0,C D (0),C D (0),au ⟨#[]⟩,O J 0 0] 128));rw[hK] at ag2;have ap6:=G (uI.nM AJ);cases sM:dP ts [40] (k+1,X) with
  |mk k1 b1=>
  have zZ:=G (rg1 (kd:=K) sM);rw[hK] at zZ;rw[sM] at dW;simp only[] at dW;clear lC HN hs sM;simp only[aW,wh] at dW dC;go_wp2_with fail;refine dW.mono ?_;rintro e' w2 ⟨rfl,fH,aJ⟩;have fw:=aJ.size;simp only[aW,wh] at fw;have eu:=G (dC.but aJ I);have jy:=G (ag2.but aJ I);have aS:=G (ap6.tr aJ);have sI:=G fH;obtain⟨f0,f1,f2,f3⟩:=fH.cells;clear fH aJ dW d0 d1 d2 d3 hfp;cases b1;case true=>have dW:=G (xJ sI [46,46] aG);have vo:dP ts [46,46] (k1,Z)=(k1,Z):=rfl;rw[vo] at dW;simp only[] at dW;clear vo;go_wp2_with fail;refine dW.mono ?_;rintro e' w3 ⟨rfl,Ec,aR⟩;have fM:=aR.size;have fD:=G (eu.but aR I);have vE:=G (jy.but aR I);have bC:=G (aS.tr aR);have Nt:=G Ec;obtain⟨f0,f1,f2,f3⟩:=Ec.cells;clear Ec aR dW;have dW:=G (xJ Nt [41] aG);have vo:dP ts [41] (k1,Z)=(k1,Z):=rfl;rw[vo] at dW;simp only[] at dW;clear vo;go_wp2_with fail;refine dW.mono ?_;rintro e' w4 ⟨rfl,Ed,bu⟩;have rH:=bu.size;have sN:=G (fD.but bu I);have Ef:=G (vE.but bu I);have dE:=G (bC.tr bu);have JM:=G Ed;obtain⟨f0,f1,f2,f3⟩:=Ed.cells;clear Ed bu dW;obtain⟨x0,x1,x2,x3,x4,x5⟩:=gW sN;obtain⟨y0,y1,y2,y3,y4,y5⟩:=gW Ef;have iB:=(Ef).frozen;go_wp2_with fail;refine eX (K7 (vw (by exact Ef)) rfl) rfl ⟨.lf ⟨_,0,0,0,[]⟩,_,_,_,_,_,_,_,_,_,_,rfl,rfl,rfl,JM.heap (λq hq=>ky q I),vz dE (aC _),⟨by have:=zZ.1;omega,λq=>yn,λ_=> .inr (by rw[La.E];exact zZ.2.1 KL)⟩⟩
  case false=>
   have Vy:=sI.hk;have qU:=G (Zx sI);have DR:=Nq (ts:=ts) (lo:=1) (hi:=99999) (k:=k1) (bad:=X);cases wG:kL ts 1 99999 k1 X with
   |mk v kb=>
   obtain⟨k2,b2⟩:=kb;rw[wG] at qU DR;simp only[] at qU DR;cases iL:dP ts [46,46] (k2,b2) with
   |mk k3 b3=>
   have uz:=G (rg2 (kd:=K) wG iL);rw[hK] at uz;have Sd:=G iL;clear wG iL;go_wp2_with fail;refine qU.mono ?_;rintro e' w3 ⟨rfl,Ec,aR⟩;have fM:=aR.size;have fD:=G (eu.but aR I);obtain⟨x0,x1,x2,x3,x4,x5⟩:=gW fD;have tT:=fD.frozen;have HXS:=G (fD.bL 2 (C D v));have BI:=G ((ai.but (k:=w.heap.size) jy aR I).far (p:=⟨wp,2,J⟩) (by show w.heap.size≠wp.heap.size;omega) (C D v));have JN:=G ((aS.tr aR).qG (p:=⟨wp,2,J⟩) (by show w.heap.size<=wp.heap.size;omega) (C D v));have ap7:=G (Ps.heap (w':=w3.setCell ⟨wp,2,J⟩ (C D v)) Ec (λq hq=>jm _ ⟨wp,2,J⟩ _ q (by show q≠wp.heap.size;omega)));have dW:=G (xJ ap7 [46,46] aG);rw[Sd.E] at dW;simp only[] at dW;simp only[wh] at dW;clear Ec aR qU;go_wp2_with fail;refine dW.mono ?_;rintro e' w4 ⟨rfl,Ed,bu⟩;have rH:=bu.size;simp only[wh] at rH;have sN:=G (ai.but (k:=wp.heap.size) HXS bu I);have Ef:=G (BI.but bu I);have dE:=G (JN.tr bu);have JM:=G Ed;obtain⟨f0,f1,f2,f3⟩:=Ed.cells;simp only[pY,oh,oP] at sN;clear Ed bu dW x0 x1 x2 x3 x4 x5 tT;cases b3;case true=>have dW:=G (xJ JM [41] aG);have vo:dP ts [41] (k3,Z)=(k3,Z):=rfl;rw[vo] at dW;simp only[] at dW;clear vo;go_wp2_with fail;refine dW.mono ?_;rintro e' w5 ⟨rfl,Lb,cO⟩;have BJ:=cO.size;have Ee:=G (sN.but cO I);have CS:=G (Ef.but cO I);have fT:=G (dE.tr cO);have Nu:=G Lb;obtain⟨f0,f1,f2,f3⟩:=Lb.cells;clear Lb cO dW;obtain⟨x0,x1,x2,x3,x4,x5⟩:=gW Ee;obtain⟨y0,y1,y2,y3,y4,y5⟩:=gW CS;have iB:=(CS).frozen;go_wp2_with fail;refine eX (K7 (vw (by exact CS)) rfl) rfl ⟨.lf ⟨_,0,v,0,[]⟩,_,_,_,_,_,_,_,_,_,_,rfl,rfl,rfl,Nu.heap (λq hq=>ky q I),vz fT (aC _),⟨by have:=zZ.1;have:=uz.1;omega,λq=>yn,λ_=> .inr (by rw[La.E,zZ.E.2.2 KL];exact uz.2.1 KL)⟩⟩
   case false=>
    have aCK:=JM.hk;have qU:=G (Zx JM);cases wG:kL ts 1 99999 k3 X with
    |mk u kb=>
    obtain⟨k4,b4⟩:=kb;rw[wG] at qU;simp only[] at qU;cases pg:dP ts [41] (k4,b4) with
    |mk k5 b5=>
    have DN:=G (rg3 (kd:=K) (v:=v) wG pg);rw[hK] at DN;have HQ3:=G pg;clear wG pg;go_wp2_with fail;refine qU.mono ?_;rintro e' w5 ⟨rfl,Lb,cO⟩;have BJ:=cO.size;have Ee:=G (sN.but cO I);obtain⟨x0,x1,x2,x3,x4,x5⟩:=gW Ee;have tT:=Ee.frozen;have ap8:=G (Ee.bL 3 (C D u));have ap9:=G ((ai.but (k:=w.heap.size) Ef cO I).far (p:=⟨wp,3,J⟩) (by show w.heap.size≠wp.heap.size;omega) (C D u));have aqa:=G ((dE.tr cO).qG (p:=⟨wp,3,J⟩) (by show w.heap.size<=wp.heap.size;omega) (C D u));have aqb:=G (Ps.heap (w':=w5.setCell ⟨wp,3,J⟩ (C D u)) Lb (λq hq=>jm _ ⟨wp,3,J⟩ _ q (by show q≠wp.heap.size;omega)));have dW:=G (xJ aqb [41] aG);rw[HQ3.E] at dW;simp only[] at dW;simp only[wh] at dW;clear Lb cO qU;go_wp2_with fail;refine dW.mono ?_;rintro e' w6 ⟨rfl,nD,dJ⟩;have Eg:=dJ.size;simp only[wh] at Eg;have Eh:=G (ai.but (k:=wp.heap.size) ap8 dJ I);have HR6:=G (ap9.but dJ I);have eY:=G (aqa.tr dJ);have HP6:=G nD;simp only[pY,oh,oP] at Eh;clear nD dJ dW x0 x1 x2 x3 x4 x5 tT;obtain⟨x0,x1,x2,x3,x4,x5⟩:=gW Eh;obtain⟨y0,y1,y2,y3,y4,y5⟩:=gW HR6;have iB:=(HR6).frozen;go_wp2_with fail;refine eX (K7 (vw (by exact HR6)) rfl) rfl ⟨.lf ⟨_,0,v,u,[]⟩,_,_,_,_,_,_,_,_,_,_,rfl,rfl,rfl,HP6.heap (λq hq=>ky q I),vz eY (aC _),⟨afz,λq=>⟨rfl,afz,by rw[La.E,zZ.E.2.2 KL,uz.E.2.2 KL];exact DN.2.2 q⟩,λq=> .inr (by rw[La.E,zZ.E.2.2 KL,uz.E.2.2 KL];exact DN.2.1 q)⟩⟩):R:=h
theorem aqc(h:Ps w g B Al nl cl ts e k X)(n:Nat)(hF:20*(nl-k)+1<=n+1)(H:tN n w g B Al nl cl ts e nl)(hs:pk ts k X=qE):aF aa 250 #[aQ g] w (qi (n+1) .iU w g B Al nl cl ts e k X):=by
 obtain⟨K,hK⟩:∃K:Int,K=21:=⟨_,rfl⟩;have La:af (pE (n+1) .iU ((aZ ts).drop k)=CJ 21 ((aZ ts).drop (k+1))):=by have e:=VC n ((aZ ts).drop k) qE hs aL;rw[if_neg aL,if_neg aL,if_neg aL,if_pos aL,Ai,if_neg aL] at e;exact e
 exact ag1
theorem aqd(h:Ps w g B Al nl cl ts e k X)(n:Nat)(hF:20*(nl-k)+1<=n+1)(H:tN n w g B Al nl cl ts e nl)(hs:pk ts k X=oU):aF aa 250 #[aQ g] w (qi (n+1) .iU w g B Al nl cl ts e k X):=by
 obtain⟨K,hK⟩:∃K:Int,K=22:=⟨_,rfl⟩;have La:af (pE (n+1) .iU ((aZ ts).drop k)=CJ 22 ((aZ ts).drop (k+1))):=by have e:=VC n ((aZ ts).drop k) oU hs aL;rw[if_neg aL,if_neg aL,if_neg aL,if_pos aL,Ai,if_pos rfl] at e;exact e
 exact ag1
end
section
variable{g B:Nat}{Al:Option aK}{nl cl:Nat}{ts:List Tok}{e:Int}
theorem aqe(h:Ps w g B Al nl cl ts e k X)(n:Nat)(hF:20*(nl-k)+1<=n+1)(H:tN n w g B Al nl cl ts e nl):aF aa 250 #[aQ g] w (qi (n+1) .iU w g B Al nl cl ts e k X):=by
 by_cases h0:pk ts k X= [];·exact apS h n hF H h0
 by_cases h1:pk ts k X= [40];·exact apT h n hF H h1
 by_cases h2:pk ts k X=oQ;·exact ap2 h n hF H h2
 by_cases h3:pk ts k X=mY;·exact ap3 h n hF H h3
 by_cases h4:pk ts k X=qc;·exact apY h n hF H h4
 by_cases h5:pk ts k X=nL;·exact apZ h n hF H h5
 by_cases h6:pk ts k X=qE;·exact aqc h n hF H h6
 by_cases h7:pk ts k X=oU;·exact aqd h n hF H h7
 by_cases h8:(ts.getD k ⟨0,[],0⟩).kind=2;·exact ap4 h n hF H ⟨h0,h1,h2,h3,h4,h5,h6,h7⟩ h8
 exact ap5 h n hF H ⟨h0,h1,h2,h3,h4,h5,h6,h7⟩ h8
theorem aqf:∀n m:Nat,m<=n->∀w:Y,tN m w g B Al nl cl ts e nl:=by
 intro n;induction n with
 |zero=>intro m hm w;obtain rfl:m=0:=I;exact⟨λl W k bad _ _ h=>by omega,λl W k _ _ _ h=>by omega,λW k _ h=>by omega⟩
 |succ n ih=>
  intro m hm w;by_cases fO:m<=n;·exact ih m fO w
  obtain rfl:m=n+1:=I;refine⟨λl W k bad hl hk hF hp=>?_,λl W k h1 h6 hk hF hp=>?_,λW k hk hF hp=>?_⟩
  ·cases bad with
   |true=>exact aph hp _ _ _
   |false=>
    have H:=ih n (aC _) W;have:l=0\/l=1\/l=2\/l=3\/l=4\/l=5\/l=6\/l=7\/l=8:=I;rcases this with rfl|rfl|rfl|rfl|rfl|rfl|rfl|rfl|rfl;·exact api hp n nl hk I H
    ·exact apj hp n nl hk I H
    ·exact apk hp n nl hk I H
    ·exact apr hp n nl hk I H
    ·exact apu hp n nl hk I H
    ·exact apl hp n nl hk I H
    ·exact apm hp n nl hk I H
    ·exact apo hp n nl hk I H
    exact apn hp n nl hk I H
  ·by_cases e6:l=6;·subst e6;exact apR hp n I (λm hm=>ih m hm W)
   exact apQ hp l h1 h6 e6 n I (λm hm=>ih m hm W)
  exact aqe hp n I (ih n (aC _) W)
theorem aqg(h:Ps w g B Al nl cl ts e k bad)(n:Nat)(hF:20*(nl-k)+20<=n):aF aa 204 #[aQ g,C D 0] w (qi n (.bG 0) w g B Al nl cl ts e k bad):=(aqf n n (aC _) w).1 0 w k bad I I I h
end
abbrev VJ(w:Y)(g:Nat)(a b c d e f i j l:ak):Y:=((((((((w.setCell ⟨g,0,J⟩ a).setCell ⟨g,1,J⟩ b).setCell ⟨g,2,J⟩ c).setCell ⟨g,3,J⟩ d).setCell ⟨g,4,J⟩ e).setCell ⟨g,5,J⟩ f).setCell ⟨g,6,J⟩ i).setCell ⟨g,7,J⟩ j).setCell ⟨g,8,J⟩ l
abbrev JO(w:Y)(g:Nat)(d e f i j l:ak):Y:=(((((w.setCell ⟨g,3,J⟩ d).setCell ⟨g,4,J⟩ e).setCell ⟨g,5,J⟩ f).setCell ⟨g,6,J⟩ i).setCell ⟨g,7,J⟩ j).setCell ⟨g,8,J⟩ l
section
variable{w w0:Y}{g g2:Nat}{T:bM}{cs:Array ak}{a b c d e f i j l a' b' c' d' e' f' i' j' l':ak}
theorem aqh(h:ai w g T #[a,b,c,d,e,f,i,j,l]):ai (VJ w g a' b' c' d' e' f' i' j' l') g T #[a',b',c',d',e',f',i',j',l']:=by have:=((((((((h.bL 0 a').bL 1 b').bL 2 c').bL 3 d').bL 4 e').bL 5 f').bL 6 i').bL 7 j').bL 8 l';simpa using this
theorem aqi(h:ai w g T #[a,b,c,d,e,f,i,j,l]):ai (JO w g d' e' f' i' j' l') g T #[a,b,c,d',e',f',i',j',l']:=by have:=(((((h.bL 3 d').bL 4 e').bL 5 f').bL 6 i').bL 7 j').bL 8 l';simpa using this
theorem F4(h:ai w g T #[a,b,c,d,e,f,i,j,l]):w.cell? ⟨g,0,J⟩=N a/\w.cell? ⟨g,1,J⟩=N b/\w.cell? ⟨g,2,J⟩=N c/\w.cell? ⟨g,3,J⟩=N d/\w.cell? ⟨g,4,J⟩=N e/\w.cell? ⟨g,5,J⟩=N f/\w.cell? ⟨g,6,J⟩=N i/\w.cell? ⟨g,7,J⟩=N j/\w.cell? ⟨g,8,J⟩=N l:=⟨h.cell 0,h.cell 1,h.cell 2,h.cell 3,h.cell 4,h.cell 5,h.cell 6,h.cell 7,h.cell 8⟩
theorem ZL(k:Nat)(hk:k≠g):(JO w g d e f i j l).heap[k]?=w.heap[k]?:=by unfold JO;rw[jm _ ⟨g,8,J⟩ l k hk,jm _ ⟨g,7,J⟩ j k hk,jm _ ⟨g,6,J⟩ i k hk,jm _ ⟨g,5,J⟩ f k hk,jm _ ⟨g,4,J⟩ e k hk,jm _ ⟨g,3,J⟩ d k hk]
theorem ag3(k:Nat)(hk:k≠g):(VJ w g a b c d e f i j l).heap[k]?=w.heap[k]?:=by show(JO (((w.setCell ⟨g,0,J⟩ a).setCell ⟨g,1,J⟩ b).setCell ⟨g,2,J⟩ c) g d e f i j l).heap[k]?=_;rw[ZL k hk,jm _ ⟨g,2,J⟩ c k hk,jm _ ⟨g,1,J⟩ b k hk,jm _ ⟨g,0,J⟩ a k hk]
theorem ag4:(JO w g d e f i j l).heap.size=w.heap.size:=by simp[JO]
theorem aqj:(VJ w g a b c d e f i j l).heap.size=w.heap.size:=by simp[VJ]
theorem ag5(h:But gp w0 w)(hg:w0.heap.size<=g):But gp w0 (JO w g d e f i j l):=(((((h.qG (p:=⟨g,3,J⟩) hg d).qG (p:=⟨g,4,J⟩) hg e).qG (p:=⟨g,5,J⟩) hg f).qG (p:=⟨g,6,J⟩) hg i).qG (p:=⟨g,7,J⟩) hg j).qG (p:=⟨g,8,J⟩) hg l
theorem aqk(h:But gp w0 w)(hg:w0.heap.size<=g):But gp w0 (VJ w g a b c d e f i j l):=ag5 (((h.qG (p:=⟨g,0,J⟩) hg a).qG (p:=⟨g,1,J⟩) hg b).qG (p:=⟨g,2,J⟩) hg c) hg
end
theorem aql{cs:Array ak}(h:ai w q 130 cs)(hs:cs.size=9)(h0:tmps.getD 2 undef=aQ q):(results f146 tmps).run aa w= .ok (aD cs) w:=results_cell_row results146 tmps w q 130 cs (0,0) _ h0 h underlying130 rfl Fa
def sT(n:Nat)(mk:Ex->cZ)(ts:List Tk):Option (cZ × List Tk):=(pE n (.bG 0) ts).bind λq=>(eF [59] q.2).map λr=>(mk q.1,r)
def VK(n:Nat)(ts:List Tok)(k:Nat)(s:cZ)(k':Nat)(b':Bool):Prop:=
 k<=k'/\(b'=X->k<k'/\wE n ((aZ ts).drop k)=N (s,(aZ ts).drop k'))/\(b'=Z->wE n ((aZ ts).drop k)=J)
def BK(n:Nat)(ts:List Tok)(k:Nat)(mk:Ex->cZ)(k1:Nat)(b1:Bool):Prop:=
 k<=k1/\(b1=X->wE n ((aZ ts).drop k)=sT n mk ((aZ ts).drop k1))/\(b1=Z->wE n ((aZ ts).drop k)=J)
theorem BK.tail{mk:Ex->cZ}(h:BK n ts k mk k1 b1)(he:jP n (.bG 0) ts k1 b1 x k2 b2)(hq:dP ts [59] (k2,b2)=(k3,b3)):VK n ts k (mk x) k3 b3:=by
 obtain⟨h0,h1,h2⟩:=h;obtain⟨e0,e1,e2⟩:=he;obtain⟨g0,g1,g2⟩:=qQ (ts:=ts) (s:= [59]) (k:=k2) (bad:=b2) aG;rw[hq] at g0 g1 g2;simp only[] at g0 g1 g2;have Ie:b2=Z->wE n ((aZ ts).drop k)=J:=λq=>by
  rcases e2 q with a|a;·exact h2 a
  cases b1;·rw[h1 rfl];unfold sT;rw[a];rfl
  exact h2 rfl
 refine⟨I,λq=>?_,λq=>?_⟩;·obtain⟨a,b,c⟩:=g1 q;obtain⟨a',b',c'⟩:=e1 a;refine⟨I,?_⟩;rw[h1 a'];unfold sT;rw[c'];simp only[bZ];rw[c,b];rfl
 rcases g2 q with a|a;·exact Ie a
 cases b2;·obtain⟨a',_,c'⟩:=e1 rfl;rw[h1 a'];unfold sT;rw[c'];simp only[bZ];rw[a];rfl
 exact Ie rfl
theorem BK.aqm(aY:∀t∈ts,t.text≠ [])(hs:pk ts k X=qB)(hn:sJ ts (k+1) X=(nm,k1,b1))(hq:dP ts [61] (k1,b1)=(k2,b2)):BK n ts k (λx=>⟨1,0,nm,x⟩) k2 b2:=by
 obtain⟨m0,m1,m2⟩:=VI aY (k:=k+1);rw[hn] at m0 m1 m2;obtain⟨g0,g1,g2⟩:=qQ (ts:=ts) (s:= [61]) (k:=k1) (bad:=b1) aG;rw[hq] at g0 g1 g2;simp only[] at m0 m1 m2 g0 g1 g2;have e:wE n ((aZ ts).drop k)=(wD ((aZ ts).drop (k+1))).bind λv=>(eF [61] v.2).bind λr=>sT n (λx=>⟨1,0,v.1,x⟩) r:=by unfold wE;rw[if_pos (show bN ((aZ ts).drop k)=qB from hs),Ai];rfl
 have JK:b1=Z->wE n ((aZ ts).drop k)=J:=λq=>by rw[e,m2 q];rfl
 refine⟨I,λq=>?_,λq=>?_⟩;·obtain⟨a,b,c⟩:=g1 q;obtain⟨b',c'⟩:=m1 a;subst b';subst b;rw[e,c'];simp only[bZ];rw[c];rfl
 rcases g2 q with a|a;·exact JK a
 cases b1;·obtain⟨b',c'⟩:=m1 rfl;subst b';rw[e,c'];simp only[bZ];rw[a];rfl
 exact JK rfl
theorem BK.req(hs:pk ts k X=qC):BK n ts k (λx=>⟨2,0,[],x⟩) (k+1) X:=by refine⟨I,λ_=>?_,λq=>yn⟩;unfold wE;have hs':bN ((aZ ts).drop k)=qC:=hs;rw[if_neg (by rw[hs'];decide),if_pos hs',Ai];rfl
theorem BK.post{v:Int}(hs:pk ts k X=qD)(hn:kL ts 1 99999 (k+1) X=(v,k1,b1)):BK n ts k (λx=>⟨3,v,[],x⟩) k1 b1:=by
 obtain⟨m1,m2⟩:=PD (ts:=ts) (lo:=1) (hi:=99999) (k:=k+1) (bad:=X);have m0:=Nq (ts:=ts) (lo:=1) (hi:=99999) (k:=k+1) (bad:=X);rw[hn] at m0 m1 m2;simp only[] at m0 m1 m2;have hs':bN ((aZ ts).drop k)=qD:=hs;have e:wE n ((aZ ts).drop k)=(sG ((aZ ts).drop (k+1))).bind λv=>sT n (λx=>⟨3,v.1,[],x⟩) v.2:=by unfold wE;rw[if_neg (by rw[hs'];decide),if_neg (by rw[hs'];decide),if_pos hs',Ai];rfl
 refine⟨I,λq=>?_,λq=>?_⟩;·obtain⟨_,b',c'⟩:=m1 q;subst b';rw[e];unfold sG;rw[c'];rfl
 rcases m2 q with a|a;·cases a
 rw[e];unfold sG;rw[a];rfl
theorem BK.none_(h1:pk ts k X≠qB)(h2:pk ts k X≠qC)(h3:pk ts k X≠qD)(mk:Ex->cZ):BK n ts k mk k Z:=by refine⟨aC _,λq=>yn,λ_=>?_⟩;have a1:¬bN ((aZ ts).drop k)=qB:=h1;have a2:¬bN ((aZ ts).drop k)=qC:=h2;have a3:¬bN ((aZ ts).drop k)=qD:=h3;unfold wE;rw[if_neg a1,if_neg a2,if_neg a3]
section
variable{w:Y}{g B:Nat}{Al:Option aK}{nl cl:Nat}{ts:List Tok}{e:Int}{k:Nat}
def ZM(n:Nat)(w:Y)(g B:Nat)(Al:Option aK)(nl cl:Nat)(ts:List Tok)(e:Int)(k:Nat)(e':Ending)(w':Y):Prop:=
 ∃(s:cZ) (kd vl fr az:Int) (nm:List UInt8) (A:Option aK) (na ca k':Nat) (b':Bool),s.expr.hd=⟨kd,vl,fr,az,nm⟩/\e'=aI (aD #[s.kind,s.dM,s.name,kd,vl,fr,az,nm,O A na ca])/\
  eU w' (λq=>w.heap.size<=q/\q<w'.heap.size) s.expr (O A na ca)/\Ps w' g B Al nl cl ts e k' b'/\But g w w'/\VK n ts k s k' b'
theorem ZM.of{Al:Option aK}{cl:Nat}{e:Int}{e':Ending}{s:cZ}{vl fr:Int}{na ca:Nat}{b':Bool}(ht:VK n ts k s k' b')(hx:s.expr.hd=⟨kd,vl,fr,az,nm⟩)(he:e'=aI (aD #[s.kind,s.dM,s.name,kd,vl,fr,az,nm,O A na ca]))
  (ha:eU w' (λq=>w.heap.size<=q/\q<w'.heap.size) s.expr (O A na ca)) (hp:Ps w' g B Al nl cl ts e k' b') (hb:But g w w'):ZM n w g B Al nl cl ts e k e' w':=⟨s,kd,vl,fr,az,nm,A,na,ca,k',b',hx,he,ha,hp,hb,ht⟩
theorem acu{wd:List UInt8}(hl:ts.length=nl)(h:(pk ts k X==wd)=Z)(hw:wd≠ []):k<nl:=by
 rcases jl k nl with q|q;·exact q
 rw[JE (by rw[hl];exact q)] at h;exact absurd (beq_iff_eq.1 h).symm hw
theorem ZN(h:R:=by
  have HL:=G (aqg Sg n I);go_wp2_with fail;refine HL.mono ?_;rintro e' wl ⟨x,kd,vl,fr,az,nm,A,na,ca,k2,b2,hx,rfl,hv,hp,hb,kM⟩;have hsl:=hb.size;have HXl:=G (ai.but (k:=w.heap.size+1) Lc hb I);obtain⟨x0,x1,x2,x3,x4,x5,x6,x7,x8⟩:=F4 HXl;have tT:=HXl.frozen;have HXs:=G (aqi (d':=C D kd) (e':=C D vl) (f':=C D fr) (i':=C D az) (j':=au ⟨nm.toArray⟩) (l':=O A na ca) HXl);have HRs:af (ai (JO wl (w.heap.size+1) (C D kd) (C D vl) (C D fr) (C D az) (au ⟨nm.toArray⟩) (O A na ca)) w 130 #[C D 0,C D 0,au ⟨#[]⟩,C D 0,C D 0,C D 0,C D 0,au ⟨#[]⟩,O J 0 0]):=(ZL w I).trans (ai.but (k:=w.heap.size) Si hb I);have HBs:=G (ag5 (g:=w.heap.size+1) (d:=C D kd) (e:=C D vl) (f:=C D fr) (i:=C D az) (j:=au ⟨nm.toArray⟩) (l:=O A na ca) (Nw.tr hb) I);have HPs:=G (Ps.heap (w':=JO wl (w.heap.size+1) (C D kd) (C D vl) (C D fr) (C D az) (au ⟨nm.toArray⟩) (O A na ca)) hp (λq hq=>ZL q I));have HAs:af (eU (JO wl (w.heap.size+1) (C D kd) (C D vl) (C D fr) (C D az) (au ⟨nm.toArray⟩) (O A na ca)) (λq=>w.heap.size+1<q/\q<wl.heap.size) x (O A na ca)):=hv.keep (λq hq=>ZL q (by have:=yA JP hq.1;omega)) (λq hq=>⟨by have:=yA JP hq.1;omega,hq.2⟩);cases hq:dP ts [59] (k2,b2) with
  |mk k3 b3=>
  have aqn:=G (BK.tail Sj kM hq);have dW:=G (xJ HPs [59] aG);rw[hq] at dW;simp only[] at dW;simp only[wh] at dW;have HHX:=G hx;clear hv hp hb kM hx hq;go_wp2_with fail;refine dW.mono ?_;rintro e' w4 ⟨rfl,Ed,bu⟩;have rH:=bu.size;rw[ag4] at rH;have sN:=G (HXs.but bu I);have Ef:=G (HRs.but bu I);have dE:=G (HBs.tr bu);have JM:=G Ed;have HA4:af (eU w4 (λq=>w.heap.size+1<q/\q<w4.heap.size) x (O A na ca)):=HAs.keep (λq hq=>bu.block q (by rw[ag4];exact hq.2) zU) (λq hq=>⟨hq.1,uu⟩);clear Ed bu dW x0 x1 x2 x3 x4 x5 x6 x7 x8 tT;obtain⟨x0,x1,x2,x3,x4,x5,x6,x7,x8⟩:=F4 sN;obtain⟨y0,y1,y2,y3,y4,y5,y6,y7,y8⟩:=F4 Ef;have iB:=Ef.frozen;go_wp2_with fail;refine eX (aql (aqh (by exact Ef)) rfl rfl) rfl (ZM.of aqn HHX rfl ?_ (JM.heap (λq hq=>ag3 q I)) (aqk dE (aC _)));exact HA4.keep (λq hq=>ag3 q qO) (λq hq=>⟨qO,by rw[aqj];exact hq.2⟩)):R:=h
theorem ag6(h:Ps w g B Al nl cl ts e k X)(n:Nat)(hF:20*(nl-k)+20<=n):aF aa 146 #[aQ (N ⟨g,0,J⟩)] w (ZM n w g B Al nl cl ts e k):=by
 have aP:=G (((aN w.heap.size w).alloc (aC _) (ag #[C D 0,C D 0,au ⟨#[]⟩,C D 0,C D 0,C D 0,C D 0,au ⟨#[]⟩,O J 0 0] 130)).alloc aG (ag #[C D 0,C D 0,au ⟨#[]⟩,C D 0,C D 0,C D 0,C D 0,au ⟨#[]⟩,O J 0 0] 130));have jL:=G ((ai.new w 130 #[C D 0,C D 0,au ⟨#[]⟩,C D 0,C D 0,C D 0,C D 0,au ⟨#[]⟩,O J 0 0]).alloc (ag #[C D 0,C D 0,au ⟨#[]⟩,C D 0,C D 0,C D 0,C D 0,au ⟨#[]⟩,O J 0 0] 130));have dC:af (ai ((w.alloc (ag #[C D 0,C D 0,au ⟨#[]⟩,C D 0,C D 0,C D 0,C D 0,au ⟨#[]⟩,O J 0 0] 130)).alloc (ag #[C D 0,C D 0,au ⟨#[]⟩,C D 0,C D 0,C D 0,C D 0,au ⟨#[]⟩,O J 0 0] 130)) (w.heap.size+1) 130 #[C D 0,C D 0,au ⟨#[]⟩,C D 0,C D 0,C D 0,C D 0,au ⟨#[]⟩,O J 0 0]):=by have:=ai.new (w.alloc (ag #[C D 0,C D 0,au ⟨#[]⟩,C D 0,C D 0,C D 0,C D 0,au ⟨#[]⟩,O J 0 0] 130)) 130 #[C D 0,C D 0,au ⟨#[]⟩,C D 0,C D 0,C D 0,C D 0,au ⟨#[]⟩,O J 0 0];rw[aW] at this;exact this
 have iJ:=G (h.go aP.E);have aO:=h.lt;have Nv:af (∀t∈ts,t.text≠ []):=λt ht=>(h.ok t ht).1;have gH:=G h.len;have HT1:=G (Nk iJ.E qB aL);clear h;cases h1:(pk ts k X==qB);all_goals
  rw[h1] at HT1;simp only[lK,if_true,if_false] at HT1;simp only[qB,qC,qD] at HT1;have H1:=G h1;clear h1;go_enter func146,ntmps146;go_wp2_with fail;refine HT1.E.mono ?_;rintro e' wt1 ⟨rfl,lM,gD⟩;have aqo:=gD.size;simp only[aW] at aqo;have ag7:=G ((But.of (g:=g) aP.E).tr gD);have ag8:=G (jL.E.but gD I);have ag9:=G (dC.E.but gD I);have aha:=G lM;clear lM gD
 ·cases h2:(pk ts k X==qC);all_goals
   have HT2:=G (Nk aha.E qC aL);rw[h2] at HT2;simp only[lK,if_true,if_false] at HT2;simp only[qB,qC,qD] at HT2;have H2:=G h2;clear h2;go_wp2_with fail;refine HT2.E.mono ?_;rintro e' Ig ⟨rfl,lM,gD⟩;have BL:=gD.size;have ahb:=G (ag7.E.tr gD);have ahc:=G (ag8.E.but gD I);have ZO:=G (ag9.E.but gD I);have ahd:=G lM;clear lM gD
  ·cases h3:(pk ts k X==qD);all_goals
    have HT3:=G (Nk ahd.E qD aL);rw[h3] at HT3;simp only[lK,if_true,if_false] at HT3;simp only[qB,qC,qD] at HT3;have H3:=G h3;clear h3;go_wp2_with fail;refine HT3.E.mono ?_;rintro e' wt3 ⟨rfl,lM,gD⟩;have aCL:=gD.size;have ahe:=G (ZO.E.but gD I);have ahf:=G (ahc.E.but gD I);have ahg:=G (ahb.E.tr gD);have ahh:=G lM;clear lM gD
   ·have Sj:=G (BK.none_ (n:=n) (beq_eq_false_iff_ne.1 H1.E) (beq_eq_false_iff_ne.1 H2.E) (beq_eq_false_iff_ne.1 H3.E) (λx=>⟨0,0,[],x⟩));go_wp2_with fail;refine(Pq ahh.E).mono ?_;rintro e' wn ⟨rfl,ow,gX⟩;have ze:=gX.size;have Lc:=G (ahe.E.but gX I);have Si:=G (ahf.E.but gX I);have Nw:=G (ahg.E.tr gX);have Sg:=G ow;clear ow gX;have JP:=G (show w.heap.size+1<wn.heap.size by omega);exact ZN
   have ig:=acu gH.E H3.E aL;cases nO:kL ts 1 99999 (k+1) X with
   |mk v kb=>
   obtain⟨k1,b1⟩:=kb;have Sj:=G (BK.post (n:=n) (beq_iff_eq.1 H3.E) nO);have xI:=G (show k+1<=k1 by have:=Nq (ts:=ts) (lo:=1) (hi:=99999) (k:=k+1) (bad:=X);rw[nO] at this;exact this);have vF:=G nO;clear nO;have HN:=G (Zx ahh.E);rw[vF.E] at HN;simp only[] at HN;go_wp2_with fail;refine HN.E.mono ?_;rintro e' wn ⟨rfl,ow,gX⟩;have ze:=gX.size;have PI:=G (ai.but (k:=w.heap.size+1) ahe.E gX I);obtain⟨x0,x1,_,_,_,_,_,_,_⟩:=F4 PI.E;have tT:=PI.E.frozen;have Lc:=G ((PI.E.bL 0 (C D 3)).bL 1 (C D v));have Si:=G (((ai.but (k:=w.heap.size) ahf.E gX I).far (p:=⟨w.heap.size+1,0,J⟩) UR (C D 3)).far (p:=⟨w.heap.size+1,1,J⟩) UR (C D v));have Nw:=G (((ahg.E.tr gX).qG (p:=⟨w.heap.size+1,0,J⟩) Cz (C D 3)).qG (p:=⟨w.heap.size+1,1,J⟩) Cz (C D v));have Sg:=G (Ps.heap (w':=((wn.setCell ⟨w.heap.size+1,0,J⟩ (C D 3)).setCell ⟨w.heap.size+1,1,J⟩ (C D v))) ow (λq hq=>(jm _ ⟨w.heap.size+1,1,J⟩ _ q UY).trans (jm _ ⟨w.heap.size+1,0,J⟩ _ q UY)));simp only[pY,oh,oP] at Lc;clear ow gX HN;have hle1:=xI.E;have hsw:wn.heap.size<=((wn.setCell ⟨w.heap.size+1,0,J⟩ (C D 3)).setCell ⟨w.heap.size+1,1,J⟩ (C D v)).heap.size:=aG;have JP:=G (show w.heap.size+1<((wn.setCell ⟨w.heap.size+1,0,J⟩ (C D 3)).setCell ⟨w.heap.size+1,1,J⟩ (C D v)).heap.size by omega);exact ZN
  have ig:=acu gH.E H2.E aL;have Sj:=G (BK.req (n:=n) (beq_iff_eq.1 H2.E));obtain⟨x0,_,_,_,_,_,_,_,_⟩:=F4 ZO.E;have tT:=ZO.E.frozen;have Lc:=G (ZO.E.bL 0 (C D 2));have Si:=G (ahc.E.far (p:=⟨w.heap.size+1,0,J⟩) UR (C D 2));have Nw:=G (ahb.E.qG (p:=⟨w.heap.size+1,0,J⟩) Cz (C D 2));have Sg:=G (Ps.heap (w':=Ig.setCell ⟨w.heap.size+1,0,J⟩ (C D 2)) ahd.E (λq hq=>jm _ ⟨w.heap.size+1,0,J⟩ _ q UY));simp only[pY,oh,oP] at Lc;have hsw:Ig.heap.size<=(Ig.setCell ⟨w.heap.size+1,0,J⟩ (C D 2)).heap.size:=aG;have JP:=G (show w.heap.size+1<(Ig.setCell ⟨w.heap.size+1,0,J⟩ (C D 2)).heap.size by omega);exact ZN
 have ig:=acu gH.E H1.E aL;cases nO:sJ ts (k+1) X with
 |mk nv kb=>
 obtain⟨k1,b1⟩:=kb;cases hqe:dP ts [61] (k1,b1) with
 |mk k2 b2=>
 have Sj:=G (BK.aqm (n:=n) Nv.E (beq_iff_eq.1 H1.E) nO hqe);have xI:=G (show k+1<=k1 by have:=(VI Nv.E (k:=k+1)).1;rw[nO] at this;exact this);have aqp:=G (show k1<=k2 by have:=(qQ (ts:=ts) (s:= [61]) (k:=k1) (bad:=b1) aG).1;rw[hqe] at this;exact this);have vF:=G nO;have HQE:=G hqe;clear nO hqe;have HN:=G (ace aha.E);rw[vF.E] at HN;simp only[] at HN;go_wp2_with fail;refine HN.E.mono ?_;rintro e' wn ⟨rfl,ow,gX⟩;have ze:=gX.size;have PI:=G (ai.but (k:=w.heap.size+1) ag9.E gX I);obtain⟨x0,x1,x2,x3,x4,x5,x6,x7,x8⟩:=F4 PI.E;have tT:=PI.E.frozen;have Lc:=G ((PI.E.bL 0 (C D 1)).bL 2 (au ⟨nv.toArray⟩));have Si:=G (((ai.but (k:=w.heap.size) ag8.E gX I).far (p:=⟨w.heap.size+1,0,J⟩) UR (C D 1)).far (p:=⟨w.heap.size+1,2,J⟩) UR (au ⟨nv.toArray⟩));have Nw:=G (((ag7.E.tr gX).qG (p:=⟨w.heap.size+1,0,J⟩) Cz (C D 1)).qG (p:=⟨w.heap.size+1,2,J⟩) Cz (au ⟨nv.toArray⟩));have Sg:=G (Ps.heap (w':=((wn.setCell ⟨w.heap.size+1,0,J⟩ (C D 1)).setCell ⟨w.heap.size+1,2,J⟩ (au ⟨nv.toArray⟩))) ow (λq hq=>(jm _ ⟨w.heap.size+1,2,J⟩ _ q UY).trans (jm _ ⟨w.heap.size+1,0,J⟩ _ q UY)));simp only[pY,oh,oP] at Lc;have dW:=G (xJ Sg.E [61] aG);rw[HQE.E] at dW;simp only[] at dW;simp only[wh] at dW;clear ow gX HN;go_wp2_with fail;refine dW.E.mono ?_;rintro e' w5 ⟨rfl,Lb,cO⟩;have BJ:=cO.size;simp only[wh] at BJ;have Ee:=G (ai.but (k:=w.heap.size+1) Lc.E cO I);have CS:=G (ai.but (k:=w.heap.size) Si.E cO I);have fT:=G (Nw.E.tr cO);have Nu:=G Lb;clear Lb cO dW x0 x1 x2 x3 x4 x5 x6 x7 x8 tT;have hle1:=xI.E;have hle2:=aqp.E;have JP:=G (show w.heap.size+1<w5.heap.size by omega);have Lc:=Ee;have Si:=CS;have Nw:=fT;have Sg:=Nu;exact ZN
end
def Ex.args:Ex->List Ex
 | .lf _=> []
 | .un _ a=> [a]
 | .bi _ a b=> [a,b]
theorem aeY(x:Ex):x.args.length=x.ar:=by cases x<;>rfl
theorem acv{a:Ex}(h:a∈x.args):a.sz<x.sz:=by
 cases x with
 |lf h0=>cases h
 |un h0 y=>simp only[Ex.args,lF] at h;subst h;show _<_+1;omega
 |bi h0 y z=>simp only[Ex.args,jZ,nJ,or_false] at h;rcases h with rfl|rfl<;>(show _<_+_+1;omega)
theorem PK(h:i<x.args.length):x.args.getD i ay∈x.args:=by have:x.args.getD i ay=x.args[i]:=U3;rw[this];exact rF h
theorem eU.at_{S:Nat->Prop}(h:eU w S x (O A n c))(hi:i<n):
  ∃g A' n' c',A=N ⟨g,0,J⟩/\S g/\(∀j,w.cell? ⟨g,i*6+j,J⟩=if j<6 then(FK (x.args.getD i ay).hd (O A' n' c'))[j]? else w.cell? ⟨g,i*6+j,J⟩)/\eU w S (x.args.getD i ay) (O A' n' c'):=by
 cases x with
 |lf h0=>injection h with _ h2 _;omega
 |un h0 y=>
  obtain⟨g,va,e,h1,h2,h3⟩:=h;obtain⟨A',n',c',rfl,_⟩:=h3.form;injection e with e1 e2 e3;obtain rfl:i=0:=I;refine⟨g,A',n',c',e1,h1,λj=>?_,h3⟩;split;·rw[h2.cell];simp[Ex.args]
  rfl
 |bi h0 y z=>
  obtain⟨g,va,vb,e,h1,h2,h3,h4⟩:=h;injection e with e1 e2 e3;have:i=0\/i=1:=I;rcases this with rfl|rfl
  ·obtain⟨A',n',c',rfl,_⟩:=h3.form;refine⟨g,A',n',c',e1,h1,λj=>?_,h3⟩;split;·rename_i hj;rw[h2.cell];simp only[iH,Nat.zero_mul,Nat.zero_add,Ex.args,Ih];rw[List.getElem?_append_left (by simpa[FK] using hj)]
   rfl
  obtain⟨A',n',c',rfl,_⟩:=h4.form;refine⟨g,A',n',c',e1,h1,λj=>?_,h4⟩;split;·rw[h2.cell];simp only[iH,Nat.one_mul,Ex.args,List.getD_cons_succ,Ih];rw[List.getElem?_append_right (by simp[FK])];simp[FK]
  rfl
theorem eU.len{S:Nat->Prop}(h:eU w S x (O A n c)):n=x.args.length/\n<=c:=by obtain⟨A',n',c',e,h1,h2⟩:=h.form;injection e with _ e2 e3;subst e2 e3;exact⟨by rw[aeY];exact h2,h1⟩
def Ii(l:List Ex):Nat:=l.foldl (λn a=>max n a.depth) 0
theorem aqr(x:Ex):x.depth=Ii x.args+1:=by cases x<;>simp[Ex.depth,Ex.args,Ii]
theorem aqs{l:List Ex}(h:i<l.length):Ii (l.take (i+1))=max (Ii (l.take i)) (l.getD i ay).depth:=by unfold Ii;have e:l.getD i ay=l[i]:=U3;rw[sD h,List.foldl_append,e];rfl
theorem ahi:∀x:Ex,x.depth<=x.sz:=by
 intro x;induction x with
 |lf h=>exact aC _
 |un h a ih=>show a.depth+1<=a.sz+1;omega
 |bi h a b qg vg=>show max a.depth b.depth+1<=a.sz+b.sz+1;omega
theorem aqt(x:Ex)(i:Nat):Ii (x.args.take i)<=x.sz:=by
 have key:∀(l:List Ex) (m:Nat),(∀a∈l,a.depth<=x.sz)->m<=x.sz->l.foldl (λn a=>max n a.depth) m<=x.sz:=by
  intro l;induction l with
  |nil=>intro m _ h;exact h
  |cons a t ih=>intro m h hm;exact ih _ (λb hb=>h b (by simp[hb])) (Nat.max_le.2 ⟨hm,h a aG⟩)
 refine key _ 0 (λa ha=>?_) I;have:=acv (List.mem_of_mem_take ha);have:=ahi a;omega
theorem Sk{h:lL}(hc:∀j,w.cell? ⟨g,i*6+j,J⟩=if j<6 then(FK h v)[j]? else w.cell? ⟨g,i*6+j,J⟩):
  w.cell? ⟨g,i*6,J⟩=N (C D h.kind)/\w.cell? ⟨g,i*6+1,J⟩=N (C D h.value)/\w.cell? ⟨g,i*6+2,J⟩=N (C D h.from_)/\w.cell? ⟨g,i*6+3,J⟩=N (C D h.az)/\w.cell? ⟨g,i*6+4,J⟩=N (au ⟨h.name.toArray⟩)/\w.cell? ⟨g,i*6+5,J⟩=N v:=⟨hc 0,hc 1,hc 2,hc 3,hc 4,hc 5⟩
theorem aqu:∀(n:Nat) (x:Ex),x.sz<=n->n<=1000000->∀(w:Y) (S:Nat->Prop) (A:Option aK) (na ca:Nat),eU w S x (O A na ca)->(∀q,S q->q<w.heap.size)->
  aF aa 150 #[gJ x.hd (O A na ca)] w λe' w'=>e'=aI (C D (x.depth:Nat))/\aj w w w':=by
 intro n;induction n with
 |zero=>intro x hx;cases x<;>simp[Ex.sz] at hx
 |succ n ih=>
  intro x hx hn w S A na ca hA hS;have ZP:=G ih;have HA:=G hA;have HS:=G hS;obtain⟨bH,_⟩:=hA.len;have gH:=G bH;have HDX:=G (aqr x);have Ld:=G (λi=>aqt x i);have gP:=G (λ(i:Nat) (h:i<x.args.length)=>aqs h);have HAS:=G (λ(a:Ex) (h:a∈x.args)=>acv h);have AL:na<=2:=OV;clear ih hA hS bH;unfold gJ;generalize x.hd=hh at*;obtain⟨kd,vl,fr,az,nm⟩:=hh;simp only[];have aP:=G ((aN w w).alloc (aC _) (ag #[kd,vl,fr,az,nm,O A na ca] 128));go_enter func150,ntmps150;go_wp2_with fail;go_loopw [3,9] (λdv iv wr=>∃i:Nat,iv=C D i/\i<=na/\dv=C D (Ii (x.args.take i):Nat)/\aj w w wr) (λ_ iv _=>na-(intOf iv).toNat);case atStart=>exact⟨0,rfl,I,rfl,aP⟩
  obtain⟨i,rfl,hi,rfl,aH⟩:=hrel;obtain⟨wo,rfl⟩:=dz wr;have eP:=aH.size;have CV:=Ld i;by_cases aO:i<na;case neg=>
   have F:af (Ii (x.args.take i)+1=x.depth):=by show _=_;rw[HDX.E,o7 Ju]
   generalize Ii (x.args.take i)=d at*;go_wp2_with fail;go_ret;exact⟨by rw[<-F.E];rfl,aH⟩
  have b3:(i:Int)<(na:Int):=I;have kG:=HA.keep (w':=wo) (S':=S) (λq hq=>aH.block q (HS q hq)) (λq hq=>hq);obtain⟨ga,A',n',c',rfl,F5,gT,kY⟩:=kG.at_ aO;have FS:=G (gP i G9);have dK:=PK (show i<x.args.length by rw[<-gH.E];exact aO);have bV:=HAS _ dK;have hdz:=ahi (x.args.getD i ay);have HC:af (∀W,aj wo wo W->aF aa 150 #[gJ (x.args.getD i ay).hd (O A' n' c')] W λe' w'=>e'=aI (C D ((x.args.getD i ay).depth:Nat))/\aj W W w'):=λW hW=>ZP (x.args.getD i ay) I I W S A' n' c' (kY.keep (λq hq=>hW.block q (by have:=HS q hq;omega)) (λq hq=>hq)) (λq hq=>by have:=HS q hq;have:=hW.size;omega);unfold gJ at HC;clear kY dK kG;generalize x.args.getD i ay=y at*;generalize Ii (x.args.take i)=d at*;obtain⟨a0,a1,a2,a3,a4,a5⟩:=Sk gT;clear gT;generalize y.hd=yh at*;obtain⟨ou,lN,lQ,gQ,fQ⟩:=yh;simp only[] at HC a0 a1 a2 a3 a4;have jw:=G (aH.alloc eP (ag #[ou,lN,lQ,gQ,fQ,O A' n' c'] 128));go_wp2_with fail;refine(HC _ ((aN wo wo).alloc (aC _) _)).mono ?_;rintro e' w2 ⟨rfl,aJ⟩;have aS:=G (aU jw aJ);clear aJ;generalize y.depth=yd at*;have BM:((max d yd:Nat):Int)=max (d:Int) (yd:Int):=I;have FM:af (Ii (x.args.take (i+1))=max d yd):=FS;have HMX:=G BM;clear BM FS;go_wp2_with fail;exact⟨⟨i+1,bR,I,by rw[FM.E,HMX.E],aS⟩,bW⟩
theorem ZQ(n:Int)(w:Y):aF aa 76 #[n] w λe' w'=>e'=aI (iw n)/\w=w':=by have F:af (iw n=(decide (1<=n)&&decide (n<=99999))):=rfl;have k0:decide (n>=1)=decide (1<=n):=rfl;cases h1:decide (1<=n)<;>cases h2:decide (n<=99999);all_goals(rw[h1,h2] at F;rw[h1] at k0;go_enter func76,ntmps76;go_wp2_with fail;go_ret;exact⟨ic,rfl⟩)
def Ny(s:List UInt8):Bool:=match qA s with
 | .ok [t]=>(t.kind==1)&&((t.text==s)&& !zi s)
 |_=>X
theorem aqv(hl:s.length<=8000):Ny s=qf s:=by
 have e0:qA s=iK (s.length+1) s 0:=by unfold qA;rw[if_neg I]
 cases h:qf s
 ·cases h2:Ny s;·rfl
  exfalso;unfold Ny at h2;rw[e0] at h2;cases hr:iK (s.length+1) s 0 with
  |error e=>rw[hr] at h2;cases h2
  |ok l=>
   rw[hr] at h2;cases l with
   |nil=>cases h2
   |cons t r=>
    cases r with
    |cons a b=>cases h2
    |nil=>
     simp only[bq,beq_iff_eq,Bool.not_eq_true'] at h2;obtain⟨a,b,c⟩:=h2;obtain⟨_,g2,g3,g4,g5⟩:=an4 _ _ _ _ hr t aG;rw[a,b] at g2 g4;cases s with
     |nil=>simp[dB] at g2
     |cons x q=>
      have hx:isLet x=Z:=by
       cases e:isLet x with
       |true=>rfl
       |false=>
        exfalso;simp only[dB] at g2;rw[if_neg (by rw[e];simp)] at g2;split at g2;·injection g2 with g2 _;omega
        split at g2;·injection g2 with g2 _;omega
        split at g2;·injection g2 with g2 _;omega
        injection g2 with g2 _;omega
      have CW:(x::q).all wC=Z:=by simp only[dB] at g2;rw[if_pos hx] at g2;injection g2 with _ g2;exact Vg.1 g2
      have bH:(x::q).length<=16:=by
       unfold Br at g4;simp only[Bool.or_eq_false_iff,Bool.and_eq_false_iff] at g4;rcases g4.1 with q|q;·simp at q
       simpa using q
      rw[zh,bq] at CW;have hy:qf (x::q)=Z:=by simp only[qf];rw[hx,CW.2,decide_eq_true bH,c];rfl
      rw[hy] at h;cases h
 obtain⟨⟨x,q,rfl,_,_⟩,_,hk⟩:=Vj h;have h1:=Zl h [] aok;rw[List.append_nil,af8] at h1;unfold tk at h1;unfold Ny;rw[e0];cases hr:iK ((x::q).length+1) (x::q) 0 with
 |error e=>rw[hr] at h1;simp[shape] at h1
 |ok l=>
  rw[hr] at h1;simp only[shape,qh,kH] at h1;cases l with
  |nil=>simp at h1
  |cons t r=>
   cases r with
   |cons a b=>simp at h1
   |nil=>simp only[kE,List.map_nil,List.append_nil,F6,and_true] at h1;have e1:t.kind=1:=congrArg Prod.fst h1;have e2:t.text=x::q:=congrArg Prod.snd h1;simp only[];rw[e1,e2,hk];simp
theorem ahj:Na (qA s)≠0↔∃e,qA s= .error e:=by
 constructor
 ·intro h;cases e:qA s with
  |error x=>exact⟨x,rfl⟩
  |ok l=>rw[e] at h;exact absurd rfl h
 rintro⟨x,e⟩;rw[e];have key:∀f r a y,iK f r a= .error y->y.2≠0:=by
  intro f;induction f with
  |zero=>intro r a y h;simp[iK] at h
  |succ f ih=>
   intro r a y h;simp only[iK] at h;split at h;·cases h
   split at h;·injection h with h;subst h;show(3:Int)≠0;omega
   split at h;·injection h with h;subst h;show(6:Int)≠0;omega
   cases hq:iK f ((r.drop (dG X r)).drop (dB (r.drop (dG X r))).2) (a+dG X r+(dB (r.drop (dG X r))).2) with
   |ok l=>rw[hq] at h;cases h
   |error z=>rw[hq] at h;injection h with h;subst h;exact ih _ _ _ hq
 unfold qA at e;split at e;·injection e with e;subst e;show(6:Int)≠0;omega
 exact key _ _ _ _ e
theorem ahk(h:R:=by go_enter func75,ntmps75;go_wp2_with fail;refine HT.mono ?_;rintro e' w1 ⟨v,rfl,ho,hb⟩;obtain⟨A,c,rfl⟩:=eO ho;clear ho;go_wp2_with fail;go_ret;exact⟨ic,hb⟩):R:=h
theorem acw(s:List UInt8)(w:Y)(hE:Env w)(hl:s.length<=8000):aF aa 75 #[s] w λe' w'=>e'=aI (qf s)/\aj w w w':=by
 have HT:=G (agt s w hE I);have HN:af (qf s=Ny s):=(aqv hl).symm;have Sa:=G (λW=>agu s W);by_cases h0:Na (qA s)=0;case neg=>
  have F:af (qf s=X):=by obtain⟨x,e⟩:=ahj.1 h0;show _=_;rw[HN.E];unfold Ny;rw[e]
  have q1:(Na (qA s)==0)=X:=UW;generalize qA s=cK at*;generalize Na cK=er at*;generalize Vf cK=at_ at*;clear h0 HN;exact ahk
 cases hr:qA s with
 |error x=>exact absurd h0 (ahj.2 ⟨x,hr⟩)
 |ok l=>
  rw[hr] at HT;simp only[Na,Vf,RP] at HT;clear h0;by_cases h1:l.length=1;case neg=>
   have F:af (qf s=X):=by
    show _=_;rw[HN.E];unfold Ny;rw[hr];cases l with
    |nil=>rfl
    |cons a r=>
     cases r with
     |nil=>exact absurd rfl h1
     |cons b r=>rfl
   have q1:((l.length:Int)==1)=X:=iO;have q1':¬(l.length:Int)=1:=I;clear HN hr h1;exact ahk
  obtain⟨t,rfl⟩:∃t,l= [t]:=by
   cases l with
   |nil=>simp at h1
   |cons a r=>cases r with
    |nil=>exact⟨a,rfl⟩
    |cons b r=>simp at h1
  have F:af (qf s=((t.kind==1)&&((t.text==s)&& !zi s))):=by show _=_;rw[HN.E];unfold Ny;rw[hr]
  obtain⟨kd,tx,fr⟩:=t;simp only[mf] at HT F;have hinl:Pg KS s=zi s:=rfl;rw[hinl] at Sa;generalize zi s=kw at*;clear HN hr h1;cases p1:(kd==1)<;>cases p2:(tx==s)<;>cases kw;all_goals(rw[p1,p2] at F;go_enter func75,ntmps75;go_wp2_with fail;refine HT.mono ?_;rintro e' w1 ⟨v,rfl,ho,hb⟩;obtain⟨A,c,rfl⟩:=eO ho;obtain⟨ad,rfl,_,d0,d1,_⟩:=(Reads.uA ho).Po (k:=0) I;simp only[Ih,Nat.zero_mul,Addr.add_zero'] at d0 d1;clear ho;go_wp2_with(refine(Sa _).mono ?_;rintro e' wk ⟨rfl,rfl⟩);go_ret;exact⟨ic,hb⟩)
theorem ZR(h:R:=by go_enter func206,ntmps206;go_wp2_with fail;go_ret;exact⟨ic,rfl⟩):R:=h
theorem aqw(k:Int)(w:Y):aF aa 206 #[k] w λe' w'=>e'=aI (C D (arity k:Nat))/\w=w':=by
 by_cases h1:3<=k;case neg=>have F:af (arity k=0):=afe;have a1:decide (k>=3)=X:=fI;have a1':decide (3<=k)=X:=a1;have a2:(k==20)=X:=iO;have a3:decide (k>=7)=X:=fI;have a3':decide (7<=k)=X:=a3;exact ZR
 have a1:decide (k>=3)=Z:=jO;have a1':decide (3<=k)=Z:=a1;by_cases h2:k<=6;case pos=>
  have F:af (arity k=1):=by show _=_;unfold arity;rw[if_pos I]
  exact ZR
 have a2:decide (k<=6)=X:=fI;have a3:decide (k>=7)=Z:=jO;have a3':decide (7<=k)=Z:=a3;by_cases h3:k=20;case pos=>subst h3;go_enter func206,ntmps206;go_wp2_with fail;go_ret;exact⟨rfl,rfl⟩
 have a4:(k==20)=X:=YJ;by_cases h4:k<=19;case pos=>
  have F:af (arity k=2):=by show _=_;unfold arity;rw[if_neg I,if_pos I]
  exact ZR
 have F:af (arity k=0):=afe;exact ZR
theorem aqx{k:Int}{o:List UInt8 × Int × Nat}(h:xz k=N o):bY k=o.2.2:=ab0 h
theorem aqy{k:Int}(h:xz k=J):bY k=if k=6 then 3 else if k=20 then 6 else if k=3 then 7 else 8:=by unfold bY;rw[h]
theorem aqz(h:lL)(A:Option aK)(na ca:Nat)(w:Y):aF aa 83 #[gJ h (O A na ca)] w λe' w'=>e'=aI (C D (bY h.kind:Nat))/\aj w w w':=by
 obtain⟨kd,vl,fr,az,nm⟩:=h;unfold gJ;simp only[];have aP:=G ((aN w w).alloc (aC _) (ag #[kd,vl,fr,az,nm,O A na ca] 128));have qV:=G (ai.new w 128 #[kd,vl,fr,az,nm,O A na ca]);go_enter func83,ntmps83;go_wp2_with fail;refine(Zy _).mono ?_;rintro e' w1 ⟨rfl,aB⟩;have aM:=G (aU aP aB);have tY:=G (qV.below aB aG);have ed:w.heap.size<w1.heap.size:=zT;clear aB aP qV;generalize Hz:(Value.agg Bw)=Py at*;have H5:af (∀k:Nat,k<11->∀w:Y,(KW 274 Py (C D (k:Int))).run aa w= .ok (aD (FU (jd.getD k ([],0,0)))) w):=by show ∀k:Nat,_;rw[<-Hz];exact Zz
 clear Hz;go_wp2_with fail;go_loopw [6] (λiv wr=>∃i:Nat,iv=C D i/\i<=11/\(jd.take i).find? (λo=>o.2.1==kd)=J/\aj w1 w1 wr) (λiv _=>11-(intOf iv).toNat);case atStart=>exact⟨0,rfl,I,rfl,aN _ _⟩
 obtain⟨i,rfl,hi,hf,aH⟩:=hrel;obtain⟨wo,rfl⟩:=dz wr;have bA:=G (aU aM aH);have eP:=aH.size;have hK:=tY.below aH ed;have HK:=G hK;by_cases aO:i<11;case neg=>
  have k3:decide ((i:Int)<11)=X:=fI;have F:af (bY kd=if kd=6 then 3 else if kd=20 then 6 else if kd=3 then 7 else 8):=by have e1:jd.take i=jd:=o7 (by rw[Px];omega);rw[e1] at hf;exact aqy hf
  have c0:=hK.cell 0;simp only[iH,iX,iI] at c0;clear hf hK aH;by_cases h6:kd=6;·subst h6;go_wp2_with fail;go_ret;exact⟨ic,bA⟩
  have q6:(kd==6)=X:=abD;by_cases h20:kd=20;·subst h20;go_wp2_with fail;go_ret;exact⟨ic,bA⟩
  have q20:(kd==20)=X:=by rw[beq_eq_false_iff_ne];exact h20
  by_cases h3:kd=3;·subst h3;go_wp2_with fail;go_ret;exact⟨ic,bA⟩
  have q3:(kd==3)=X:=YJ;rw[if_neg h6,if_neg h20,if_neg h3] at F;go_wp2_with fail;go_ret;exact⟨ic,bA⟩
 have k3:decide ((i:Int)<11)=Z:=jO;have D5:=H5 i aO;have FS:=G (ach (show i<jd.length by rw[Px];exact aO) ([],0,0) hf);generalize jd.getD i ([],0,0)=o at*;obtain⟨tx,ok,lv⟩:=o;unfold FU at D5;simp only[] at D5;have hX:=ai.new wo 273 #[tx,ok,C D (lv:Nat)];have c0:=(hK.alloc (ag #[tx,ok,C D (lv:Nat)] 273)).cell 0;simp only[iH,iX,iI] at c0;have oq:=G (aH.alloc eP (ag #[tx,ok,C D (lv:Nat)] 273));clear hf aH hX hK;cases h1:(ok==kd);case false=>
  have F2:af ((jd.take (i+1)).find? (λo=>o.2.1==kd)=J):=by show _=_;rw[FS.E];simp only[h1];rfl
  clear FS;go_wp2_with fail;exact⟨⟨i+1,bR,I,F2,oq⟩,bW⟩
 have F2:af (bY kd=lv):=by refine aqx (o:=(tx,ok,lv)) (aci (k:=i+1) ?_);rw[FS.E];simp only[h1];rfl
 clear FS;go_wp2_with fail;go_ret;exact⟨Rz,aU aM oq⟩
theorem aqA{p:Ex->Bool}{xs:List Ex}(hk:k<xs.length)(h:p (xs.getD k ay)=Z):xs.any p=Z:=by have e:xs.getD k ay=xs[k]:=zV;rw[e] at h;exact List.any_eq_true.2 ⟨_,rF hk,h⟩
theorem aqB{p:Ex->Bool}{xs:List Ex}(hk:k<xs.length)(h:(xs.take k).any p=X)(h':p (xs.getD k ay)=X):(xs.take (k+1)).any p=X:=by rw[sD hk,List.any_append,h];have e:xs.getD k ay=xs[k]:=zV;rw[e] at h';simp[h']
def aqC(p:Ex->Bool)(xs:List Ex)(w:Y)(e:Ending)(w':Y):Prop:=∃r:Int,e=aI r/\decide (0<=r)=xs.any p/\aj w w w'
theorem ahl(h:R:=by have k3:decide ((i:Int)<(na:Int))=X:=fI;rw[o7 Ju] at hd;have F:=G hd;clear hd;go_wp2_with fail;go_ret;exact⟨-1,rfl,ic,aH⟩):R:=h
theorem aqD(Fu:FuncId)(p:Ex->Bool)(oo:∀(args:Array ak) (w:Y),(callFunc Fu args).run aa w= .ok (.enter Fu args) w)(x:Ex)(S:Nat->Prop)(A:Option aK)(na ca:Nat)(w:Y)(hA:eU w S x (O A na ca))(hS:∀q,S q->q<w.heap.size)
  (hF:∀(y:Ex) (W:Y) (A':Option aK) (n' c':Nat),y∈x.args->aj w w W->eU W S y (O A' n' c')->aF aa Fu #[gJ y.hd (O A' n' c')] W λe w'=>e=aI (p y)/\aj W W w'):
  aF aa 251 #[O A na ca,.func (.func Fu) #[] #[]] w (aqC p x.args w):=by
 obtain⟨bH,_⟩:=hA.len;have gH:=G bH;have HA:=G hA;have HS:=G hS;have HF:=G hF;have AL:na<=2:=OV;clear hA hS hF bH;go_enter func251,ntmps251;go_wp2_with fail;go_loopw [8] (λiv wr=>∃i:Nat,iv=C D i/\i<=na/\(x.args.take i).any p=X/\aj w w wr) (λiv _=>na-(intOf iv).toNat);case atStart=>exact⟨0,rfl,I,rfl,aN _ _⟩
 obtain⟨i,rfl,hi,hd,aH⟩:=hrel;obtain⟨wo,rfl⟩:=dz wr;have eP:=aH.size;by_cases aO:i<na;case neg=>exact ahl
 have b3:(i:Int)<(na:Int):=I;have dA:i<x.args.length:=G9;have kG:=HA.keep (w':=wo) (S':=S) (λq hq=>aH.block q (HS q hq)) (λq hq=>hq);obtain⟨ga,A',n',c',rfl,F5,gT,kY⟩:=kG.at_ aO;have HC:=G (HF (x.args.getD i ay) wo A' n' c' (PK dA) aH kY);have HY:af (p (x.args.getD i ay)=Z->x.args.any p=Z):=λh=>aqA dA h;have HN:af (p (x.args.getD i ay)=X->(x.args.take (i+1)).any p=X):=λh=>aqB dA hd h;unfold gJ at HC;clear kY kG dA hd;generalize x.args.getD i ay=y at*;obtain⟨a0,a1,a2,a3,a4,a5⟩:=Sk gT;clear gT;generalize p y=py at*;generalize y.hd=yh at*;obtain⟨ou,lN,lQ,gQ,fQ⟩:=yh;simp only[] at HC a0 a1 a2 a3 a4;cases py;·have F:=G (HN rfl);clear HN HY;go_wp2_with fail;refine HC.mono ?_;rintro e' w1 ⟨rfl,hb⟩;have HB:=G (aU aH hb);clear hb aH a0 a1 a2 a3 a4 a5;go_wp2_with fail;exact⟨⟨i+1,bR,I,F,HB⟩,bW⟩
 have F:=G (HY rfl);clear HN HY;go_wp2_with fail;refine HC.mono ?_;rintro e' w1 ⟨rfl,hb⟩;have HB:=G (aU aH hb);clear hb aH a0 a1 a2 a3 a4 a5;go_wp2_with fail;go_ret;exact⟨i,rfl,Rq,HB⟩
theorem ahm(h:R:=by refine HI.mono ?_;rintro e w1 ⟨r,rfl,hr,hb⟩;have F7:=G hr;clear hr;go_wp2_with fail;go_ret;exact⟨by rw[<-F7.E];rfl,hb⟩):R:=h
theorem aqE(Fu:FuncId)(p:Ex->Bool)(oo:∀(args:Array ak) (w:Y),(callFunc Fu args).run aa w= .ok (.enter Fu args) w)(x:Ex)(S:Nat->Prop)(A:Option aK)(na ca:Nat)(w:Y)(hA:eU w S x (O A na ca))(hS:∀q,S q->q<w.heap.size)
  (hF:∀(y:Ex) (W:Y) (A':Option aK) (n' c':Nat),y∈x.args->aj w w W->eU W S y (O A' n' c')->aF aa Fu #[gJ y.hd (O A' n' c')] W λe w'=>e=aI (p y)/\aj W W w'):
  aF aa 207 #[O A na ca,.func (.func Fu) #[] #[]] w λe w'=>e=aI (x.args.any p)/\aj w w w':=by have HI:=G (aqD Fu p oo x S A na ca w hA hS hF);clear hA hS hF oo;go_enter func207,ntmps207;go_wp2_with fail;exact ahm
theorem aqF(args:Array ak)(w:Y):(callFunc 208 args).run aa w= .ok (.enter 208 args) w:=by simp[go_sem]
theorem ahn(h:R:=by go_wp2_with fail;refine(HP _ aP).mono ?_;rintro e w1 ⟨rfl,hb⟩;go_wp2_with fail;go_ret;exact⟨rfl,aU aP hb⟩):R:=h
theorem aqG(h:lL)(v:ak)(b:Bool)(w:Y)(hp:∀W,aj w w W->aF aa 151 #[gJ h v] W λe w'=>e=aI b/\aj W W w'):
  aF aa 208 #[gJ h v] w λe w'=>e=aI (!b)/\aj w w w':=by obtain⟨kd,vl,fr,az,nm⟩:=h;unfold gJ at hp |-;simp only[] at hp |-;have HP:=G hp;have aP:=G ((aN w w).alloc (aC _) (ag #[kd,vl,fr,az,nm,v] 128));clear hp;go_enter func208,ntmps208;exact ahn
def yD:Ex->Prop
 | .lf h=>h.name.length<=8000
 | .un h a=>h.name.length<=8000/\yD a
 | .bi h a b=>h.name.length<=8000/\yD a/\yD b
theorem yD.hd(h:yD x):x.hd.name.length<=8000:=by
 cases x with
 |lf h0=>exact h
 |un h0 a=>exact h.1
 |bi h0 a b=>exact h.1
theorem yD.arg{y:Ex}(h:yD x)(hy:y∈x.args):yD y:=by
 cases x with
 |lf h0=>cases hy
 |un h0 a=>simp only[Ex.args,lF] at hy;subst hy;exact h.2
 |bi h0 a b=>
  simp only[Ex.args,jZ,nJ,or_false] at hy;rcases hy with rfl|rfl;·exact h.2.1
  exact h.2.2
theorem aqH(x:Ex):eG x=(oZ x.hd x.args.length&& !x.args.any λy=> !eG y):=by
 cases x with
 |lf h=>simp[eG,Ex.hd,Ex.args]
 |un h a=>simp[eG,Ex.hd,Ex.args]
 |bi h a b=>simp[eG,Ex.hd,Ex.args]
theorem aqI(k:Int):k=1\/k=2\/k=20\/(k=21\/k=22)\/(k≠1/\k≠2/\k≠20/\k≠21/\k≠22):=by omega
theorem ahq(h:R:=by
  go_enter func151,ntmps151;go_wp2_with fail;go_quiet((go_at_call 206;exact Ph ((wL _).mono MJ)));go_wp2_with fail;all_goals first
   |(refine(HC _ ((below_drewN (((aN w w).alloc (aC _) _).alloc aG _) _).setCell aG _)).mono ?_;rintro e w1 ⟨rfl,hb⟩;have aM:=G (aU ((below_drewN (((aN w w).alloc (aC _) _).alloc aG _) _).setCell aG _) hb);clear hb;go_wp2_with fail;go_ret;refine⟨?_,aM⟩;rw[HR.E];clear aP HC wL HR aM dC AJ;simp_all [oZ];try(intros;omega))
   |(go_ret;refine⟨?_,(below_drewN (((aN w w).alloc (aC _) _).alloc aG _) _).setCell aG _⟩;show aI (ax X)=_;rw[HR.E];clear aP HC wL HR dC AJ;simp_all [oZ];try(intros;omega))
   |trace_state):R:=h
theorem aqJ(hh:lL)(cb cK:Bool)(w:Y)(A:Option aK)(na ca:Nat)(AL:na<=2)(hE:Env w)(yx:hh.name.length<=8000)(hR:cK=(oZ hh na&& !cb))
  (hC:∀W,aj w w W->aF aa 207 #[O A na ca,.func (.func 208) #[] #[]] W λe w'=>e=aI cb/\aj W W w'):
  aF aa 151 #[gJ hh (O A na ca)] w λe w'=>e=aI cK/\aj w w w':=by
 obtain⟨kd,vl,fr,az,nm⟩:=hh;unfold gJ;simp only[] at yx |-;have HC:=G hC;have HR:=G hR;have aP:=G ((aN w w).alloc (aC _) (ag #[kd,vl,fr,az,nm,O A na ca] 128));have HE:=G hE;have Nz:=G yx;have wL:=G (λW=>aqw kd W);clear hC hR hE yx;generalize pg:((na:Int)==(arity kd:Nat))=q3 at*;have HQ3:af ((na==arity kd)=q3):=by show _=_;rw[<-pg,FH,beq_iff_eq,beq_iff_eq];omega
 clear pg;have dC:=G ((ai.new w 128 #[kd,vl,fr,az,nm,O A na ca]).alloc (ag #[kd,C D 0,C D 0,C D 0,au ⟨#[]⟩,O J 0 0] 128));have AJ:af (ai ((w.alloc (ag #[kd,vl,fr,az,nm,O A na ca] 128)).alloc (ag #[kd,C D 0,C D 0,C D 0,au ⟨#[]⟩,O J 0 0] 128)) (w.heap.size+1) 128 #[kd,C D 0,C D 0,C D 0,au ⟨#[]⟩,O J 0 0]):=by have h:=ai.new (w.alloc (ag #[kd,vl,fr,az,nm,O A na ca] 128)) 128 #[kd,C D 0,C D 0,C D 0,au ⟨#[]⟩,O J 0 0];rw[aW] at h;exact h
 rcases aqI kd with rfl|rfl|rfl|hk|⟨n1,n2,n20,n21,n22⟩;case inl=>exact ahq
 case inr.inl=>
  have HN:=G (λW h=>acw nm W h Nz);cases hn:qf nm;all_goals(
   rw[hn] at HN;go_enter func151,ntmps151;go_wp2_with fail;go_quiet((go_at_call 206;exact Ph ((wL _).mono MJ)));go_wp2_with fail;all_goals first
    |(
      refine(HN _ (HE.after ((below_drewN (((aN w w).alloc (aC _) _).alloc aG _) _).setCell aG _))).mono ?_;rintro e w1 ⟨rfl,hb⟩;have aM:=G (aU ((below_drewN (((aN w w).alloc (aC _) _).alloc aG _) _).setCell aG _) hb);have bO:=G (((dC.drewN nq).far aG _).below hb (by simp;try omega));have HW1:af (ai w1 (w.heap.size+1) 128 #[C D 2,C D 0,C D 0,C D 0,nm,O J 0 0]):=G (((AJ.drewN nq).bL 4 _).below hb aG);have x0:w1.cell? ⟨w,0,J⟩=N (C D 2):=bO.cell 0;have x1:w1.cell? ⟨w,1,J⟩=N (C D vl):=bO.cell 1;have x2:w1.cell? ⟨w,2,J⟩=N (C D fr):=bO.cell 2;have x3:w1.cell? ⟨w,3,J⟩=N (C D az):=bO.cell 3;have x4:w1.cell? ⟨w,4,J⟩=N (au ⟨nm.toArray⟩):=bO.cell 4;have x5:w1.cell? ⟨w,5,J⟩=N (O A na ca):=bO.cell 5;have u0:w1.cell? ⟨w.heap.size+1,0,J⟩=N (C D 2):=HW1.cell 0;have u1:w1.cell? ⟨w.heap.size+1,1,J⟩=N (C D 0):=HW1.cell 1;have u2:w1.cell? ⟨w.heap.size+1,2,J⟩=N (C D 0):=HW1.cell 2;have u3:w1.cell? ⟨w.heap.size+1,3,J⟩=N (C D 0):=HW1.cell 3;have u4:w1.cell? ⟨w.heap.size+1,4,J⟩=N (au ⟨nm.toArray⟩):=HW1.cell 4;have u5:w1.cell? ⟨w.heap.size+1,5,J⟩=N (O J 0 0):=HW1.cell 5;clear hb;go_wp2_with fail;all_goals first
       |(refine(HC _ (by exact aM)).mono ?_;rintro e w2 ⟨rfl,hb⟩;have aS:=G (aU aM hb);clear hb x0 x1 x2 x3 x4 x5 u0 u1 u2 u3 u4 u5;go_wp2_with fail;go_ret;refine⟨?_,aS⟩;rw[HR.E];clear aP HC wL HR aM aS dC AJ HN bO HW1;simp_all [oZ];try(intros;omega))
       |(go_ret;refine⟨?_,aM⟩;show aI (ax X)=_;rw[HR.E];clear aP HC wL HR dC AJ HN bO HW1 aM x0 x1 x2 x3 x4 x5 u0 u1 u2 u3 u4 u5;simp_all [oZ];try(intros;omega))
       |trace_state)
    |(go_ret;refine⟨?_,(below_drewN (((aN w w).alloc (aC _) _).alloc aG _) _).setCell aG _⟩;show aI (ax X)=_;rw[HR.E];clear aP HC wL HR dC AJ HN;simp_all [oZ];try(intros;omega))
    |trace_state
   )
 case inr.inr.inl=>exact ahq
 case inr.inr.inr.inl=>
  have Ij:=G (ZQ fr);have HA2:=G (ZQ az);rcases hk with rfl|rfl;all_goals(
   cases h1:iw fr<;>cases h2:iw az;all_goals(
    rw[h1] at Ij;rw[h2] at HA2;go_enter func151,ntmps151;go_wp2_with fail;go_quiet((go_at_call 206;exact Ph ((wL _).mono MJ)));go_wp2_with fail;go_region;go_wp2_with fail;all_goals try(refine(Ij _).mono ?_;rintro e w1 ⟨rfl,rfl⟩;go_wp2_with fail)
    all_goals try(refine(HA2 _).mono ?_;rintro e w1 ⟨rfl,rfl⟩;go_wp2_with fail)
    all_goals first
     |(refine(HC _ (((below_drewN (((aN w w).alloc (aC _) _).alloc aG _) _).setCell aG _).setCell aG _)).mono ?_;rintro e w1 ⟨rfl,hb⟩;have aM:=G (aU (((below_drewN (((aN w w).alloc (aC _) _).alloc aG _) _).setCell aG _).setCell aG _) hb);clear hb;go_wp2_with fail;go_ret;refine⟨?_,aM⟩;rw[HR.E];clear aP HC wL HR aM dC AJ;simp_all [oZ];try(intros;omega))
     |(go_ret;refine⟨?_,((below_drewN (((aN w w).alloc (aC _) _).alloc aG _) _).setCell aG _).setCell aG _⟩;show aI (ax X)=_;rw[HR.E];clear aP HC wL HR dC AJ;simp_all [oZ];try(intros;omega))
     |trace_state
    ))
 case inr.inr.inr.inr=>
  have k1:(kd==1)=X:=by rw[beq_eq_false_iff_ne];exact n1
  have k2:(kd==2)=X:=by rw[beq_eq_false_iff_ne];exact n2
  have k3:(kd==20)=X:=by rw[beq_eq_false_iff_ne];exact n20
  have k4:(kd==21)=X:=by rw[beq_eq_false_iff_ne];exact n21
  have k5:(kd==22)=X:=by rw[beq_eq_false_iff_ne];exact n22
  cases g1:decide (kd>=1)<;>cases g2:decide (kd<=22);all_goals(
   go_enter func151,ntmps151;go_wp2_with fail;go_quiet((go_at_call 206;exact Ph ((wL _).mono MJ)));go_wp2_with fail;all_goals first
    |(refine(HC _ ((below_drewN (((aN w w).alloc (aC _) _).alloc aG _) _))).mono ?_;rintro e w1 ⟨rfl,hb⟩;have aM:=G (aU ((below_drewN (((aN w w).alloc (aC _) _).alloc aG _) _)) hb);clear hb;go_wp2_with fail;go_ret;refine⟨?_,aM⟩;rw[HR.E];clear aP HC wL HR aM dC AJ;simp_all [oZ,hk];try(intros;omega))
    |(go_ret;refine⟨?_,(below_drewN (((aN w w).alloc (aC _) _).alloc aG _) _)⟩;show aI (ax X)=_;rw[HR.E];clear aP HC wL HR dC AJ;simp_all [oZ,hk];try(intros;omega))
    |trace_state
   )
theorem aqK:∀(n:Nat) (x:Ex),x.sz<=n->yD x->∀(w:Y) (S:Nat->Prop) (A:Option aK) (na ca:Nat),Env w->eU w S x (O A na ca)->(∀q,S q->q<w.heap.size)->
  aF aa 151 #[gJ x.hd (O A na ca)] w λe w'=>e=aI (eG x)/\aj w w w':=by
 intro n;induction n with
 |zero=>intro x hx;cases x<;>simp[Ex.sz] at hx
 |succ n ih=>intro x hx hN w S A na ca hE hA hS;obtain⟨bH,_⟩:=hA.len;refine aqJ x.hd (x.args.any λy=> !eG y) (eG x) w A na ca OV hE hN.hd (by rw[aqH,<-bH]) ?_;intro W hW;have hs:=hW.size;refine aqE 208 (λy=> !eG y) aqF x S A na ca W (hA.keep (λq hq=>hW.block q (hS q hq)) (λq hq=>hq)) (λq hq=>by have:=hS q hq;omega) ?_;intro y W2 A' n' c' hy hb kY;have fw:=hb.size;refine aqG y.hd (O A' n' c') (eG y) W2 ?_;intro W3 aR;have fM:=aR.size;exact ih y (by have:=acv hy;omega) (hN.arg hy) W3 S A' n' c' (((hE.after hW).after hb).after aR) (kY.keep (λq hq=>aR.block q (by have:=hS q hq;omega)) (λq hq=>hq)) (λq hq=>by have:=hS q hq;omega)
def NA(s:cZ)(v:ak):ak:=aD #[s.kind,s.dM,s.name,s.expr.hd.kind,s.expr.hd.value,s.expr.hd.from_,s.expr.hd.az,s.expr.hd.name,v]
theorem aqL(sk ac:Int)(sn:List UInt8)(h:lL)(dp:Nat)(oe cK:Bool)(w:Y)(A:Option aK)(na ca:Nat)(hE:Env w)(hn:sn.length<=8000)
  (hR:cK=((if sk=1 then qf sn&&(ac==0) else if sk=2 then(sn== [])&&(ac==0) else if sk=3 then(sn== [])&&iw ac else X)&&decide (dp<=30)&&oe))
  (hD:∀W,aj w w W->aF aa 150 #[gJ h (O A na ca)] W λe w'=>e=aI (C D (dp:Nat))/\aj W W w')
  (hP:∀W,aj w w W->aF aa 151 #[gJ h (O A na ca)] W λe w'=>e=aI oe/\aj W W w'):
  aF aa 79 #[aD #[sk,ac,sn,h.kind,h.value,h.from_,h.az,h.name,O A na ca]] w λe w'=>e=aI cK/\aj w w w':=by
 obtain⟨kd,vl,fr,az,nm⟩:=h;unfold gJ at hD hP;simp only[] at hD hP |-;have HD:=G hD;have HP:=G hP;have HR:=G hR;have HE:=G hE;have HN:=G (λW h=>acw sn W h hn);have HA:=G (ZQ ac);have aP:=G ((aN w w).alloc (aC _) (ag #[sk,ac,sn,kd,vl,fr,az,nm,O A na ca] 130));have dC:=G (ai.new w 130 #[sk,ac,sn,kd,vl,fr,az,nm,O A na ca]);clear hD hP hR hE hn;have hk:sk=1\/sk=2\/sk=3\/(sk≠1/\sk≠2/\sk≠3):=I;generalize hdp:decide (dp<=30)=qd at*;have gdp:decide ((dp:Int)<=30)=qd:=by rw[<-hdp,decide_eq_decide];omega
 clear hdp;rcases hk with rfl|rfl|rfl|⟨n1,n2,n3⟩;case inl=>
  cases hn:qf sn<;>cases qd<;>cases oe;all_goals(
   rw[hn] at HN;go_enter func79,ntmps79;go_wp2_with fail;refine(HN _ (HE.after aP)).mono ?_;rintro e w1 ⟨rfl,hb⟩;have aM:=G (aU aP hb);have bO:=G (dC.below hb aG);clear hb;have x0:w1.cell? ⟨w,0,J⟩=N (C D 1):=bO.cell 0;have x1:w1.cell? ⟨w,1,J⟩=N (C D ac):=bO.cell 1;have x2:w1.cell? ⟨w,2,J⟩=N (au ⟨sn.toArray⟩):=bO.cell 2;have x3:w1.cell? ⟨w,3,J⟩=N (C D kd):=bO.cell 3;have x4:w1.cell? ⟨w,4,J⟩=N (C D vl):=bO.cell 4;have x5:w1.cell? ⟨w,5,J⟩=N (C D fr):=bO.cell 5;have x6:w1.cell? ⟨w,6,J⟩=N (C D az):=bO.cell 6;have x7:w1.cell? ⟨w,7,J⟩=N (au ⟨nm.toArray⟩):=bO.cell 7;have x8:w1.cell? ⟨w,8,J⟩=N (O A na ca):=bO.cell 8;go_wp2_with fail;all_goals first
   |(
     refine(HD _ aM).mono ?_;rintro e w3 ⟨rfl,aR⟩;have bC:=G (aU aM aR);have fD:=G (bO.below aR (by exact bO.lt));clear aR x0 x1 x2 x3 x4 x5 x6 x7 x8;have x0:w3.cell? ⟨w,0,J⟩=N (C D 1):=fD.cell 0;have x3:w3.cell? ⟨w,3,J⟩=N (C D kd):=fD.cell 3;have x4:w3.cell? ⟨w,4,J⟩=N (C D vl):=fD.cell 4;have x5:w3.cell? ⟨w,5,J⟩=N (C D fr):=fD.cell 5;have x6:w3.cell? ⟨w,6,J⟩=N (C D az):=fD.cell 6;have x7:w3.cell? ⟨w,7,J⟩=N (au ⟨nm.toArray⟩):=fD.cell 7;have x8:w3.cell? ⟨w,8,J⟩=N (O A na ca):=fD.cell 8;go_wp2_with fail;all_goals first
      |(refine(HP _ bC).mono ?_;rintro e w4 ⟨rfl,bu⟩;have dE:=G (aU bC bu);clear bu x0 x3 x4 x5 x6 x7 x8;go_wp2_with fail;(go_ret;refine⟨?_,dE⟩;show aI (ax _)=_;rw[HR.E];clear HD HP HR HE HN HA aP dC aM bO bC fD dE;simp_all))
      |(go_ret;refine⟨?_,bC⟩;show aI (ax _)=_;rw[HR.E];clear HD HP HR HE HN HA aP dC aM bO bC fD x0 x3 x4 x5 x6 x7 x8;simp_all))
   |(go_ret;refine⟨?_,aM⟩;show aI (ax _)=_;rw[HR.E];clear HD HP HR HE HN HA aP dC aM bO x0 x1 x2 x3 x4 x5 x6 x7 x8;simp_all)
   |trace_state)
 case inr.inl=>
  by_cases hs:sn= []<;>by_cases ha:ac=0<;>cases qd<;>cases oe;all_goals(
   try subst hs
   try subst ha
   go_enter func79,ntmps79;go_wp2_with fail;all_goals first
   |(
     refine(HD _ aP).mono ?_;rintro e w3 ⟨rfl,aR⟩;have bC:=G (aU aP aR);have fD:=G (dC.below aR (by exact dC.lt));clear aR;have x0:w3.cell? ⟨w,0,J⟩=N (C D 2):=fD.cell 0;have x3:w3.cell? ⟨w,3,J⟩=N (C D kd):=fD.cell 3;have x4:w3.cell? ⟨w,4,J⟩=N (C D vl):=fD.cell 4;have x5:w3.cell? ⟨w,5,J⟩=N (C D fr):=fD.cell 5;have x6:w3.cell? ⟨w,6,J⟩=N (C D az):=fD.cell 6;have x7:w3.cell? ⟨w,7,J⟩=N (au ⟨nm.toArray⟩):=fD.cell 7;have x8:w3.cell? ⟨w,8,J⟩=N (O A na ca):=fD.cell 8;go_wp2_with fail;all_goals first
      |(refine(HP _ bC).mono ?_;rintro e w4 ⟨rfl,bu⟩;have dE:=G (aU bC bu);clear bu x0 x3 x4 x5 x6 x7 x8;go_wp2_with fail;(go_ret;refine⟨?_,dE⟩;show aI (ax _)=_;rw[HR.E];clear HD HP HR HE HN HA aP dC bC fD dE;simp_all))
      |(go_ret;refine⟨?_,bC⟩;show aI (ax _)=_;rw[HR.E];clear HD HP HR HE HN HA aP dC bC fD x0 x3 x4 x5 x6 x7 x8;simp_all))
   |(go_ret;refine⟨?_,aP⟩;show aI (ax _)=_;rw[HR.E];clear HD HP HR HE HN HA dC;simp_all)
   |trace_state)
 case inr.inr.inl=>
  by_cases hs:sn= []<;>cases hn:iw ac<;>cases qd<;>cases oe;all_goals(
   rw[hn] at HA;try subst hs
   go_enter func79,ntmps79;go_wp2_with fail;all_goals try(refine(HA _).mono ?_;rintro e w1 ⟨rfl,rfl⟩;go_wp2_with fail)
   all_goals first
   |(
     refine(HD _ aP).mono ?_;rintro e w3 ⟨rfl,aR⟩;have bC:=G (aU aP aR);have fD:=G (dC.below aR (by exact dC.lt));clear aR;have x0:w3.cell? ⟨w,0,J⟩=N (C D 3):=fD.cell 0;have x3:w3.cell? ⟨w,3,J⟩=N (C D kd):=fD.cell 3;have x4:w3.cell? ⟨w,4,J⟩=N (C D vl):=fD.cell 4;have x5:w3.cell? ⟨w,5,J⟩=N (C D fr):=fD.cell 5;have x6:w3.cell? ⟨w,6,J⟩=N (C D az):=fD.cell 6;have x7:w3.cell? ⟨w,7,J⟩=N (au ⟨nm.toArray⟩):=fD.cell 7;have x8:w3.cell? ⟨w,8,J⟩=N (O A na ca):=fD.cell 8;go_wp2_with fail;all_goals first
      |(refine(HP _ bC).mono ?_;rintro e w4 ⟨rfl,bu⟩;have dE:=G (aU bC bu);clear bu x0 x3 x4 x5 x6 x7 x8;go_wp2_with fail;(go_ret;refine⟨?_,dE⟩;show aI (ax _)=_;rw[HR.E];clear HD HP HR HE HN HA aP dC bC fD dE;simp_all))
      |(go_ret;refine⟨?_,bC⟩;show aI (ax _)=_;rw[HR.E];clear HD HP HR HE HN HA aP dC bC fD x0 x3 x4 x5 x6 x7 x8;simp_all))
   |(go_ret;refine⟨?_,aP⟩;show aI (ax _)=_;rw[HR.E];clear HD HP HR HE HN HA dC;simp_all)
   |trace_state)
 case inr.inr.inr=>
  have k1:(sk==1)=X:=by rw[beq_eq_false_iff_ne];exact n1
  have k2:(sk==2)=X:=by rw[beq_eq_false_iff_ne];exact n2
  have k3:(sk==3)=X:=by rw[beq_eq_false_iff_ne];exact n3
  go_enter func79,ntmps79;go_wp2_with fail;(go_ret;refine⟨?_,aP⟩;show aI (ax _)=_;rw[HR.E];clear HD HP HR HE HN HA dC;simp_all)
theorem aqM(s:cZ)(w:Y)(S:Nat->Prop)(A:Option aK)(na ca:Nat)(hE:Env w)(hA:eU w S s.expr (O A na ca))(hS:∀q,S q->q<w.heap.size)(hN:yD s.expr)(hn:s.name.length<=8000)(hz:s.expr.sz<=1000000):
  aF aa 79 #[NA s (O A na ca)] w λe w'=>e=aI (o5 s)/\aj w w w':=by
 unfold NA;refine aqL s.kind s.dM s.name s.expr.hd s.expr.depth (eG s.expr) (o5 s) w A na ca hE hn rfl (λW hW=>?_) (λW hW=>?_);·have:=hW.size;exact aqu s.expr.sz s.expr (aC _) hz W S A na ca (hA.keep (λq hq=>hW.block q (hS q hq)) (λq hq=>hq)) (λq hq=>by have:=hS q hq;omega)
 have:=hW.size;exact aqK s.expr.sz s.expr (aC _) hN W S A na ca (hE.after hW) (hA.keep (λq hq=>hW.block q (hS q hq)) (λq hq=>hq)) (λq hq=>by have:=hS q hq;omega)
instance:Inhabited cZ:=⟨⟨0,0,[],ay⟩⟩
def PL(s:cZ)(v:ak):List ak:= [C D s.kind,C D s.dM,au ⟨s.name.toArray⟩,C D s.expr.hd.kind,C D s.expr.hd.value,C D s.expr.hd.from_,C D s.expr.hd.az,au ⟨s.expr.hd.name.toArray⟩,v]
def zt(w:Y)(S:Nat->Prop)(ss:List cZ)(A:Option aK)(n c:Nat):Prop:=
 n=ss.length/\n<=c/\∀i,i<n->∃g A' n' c',A=N ⟨g,0,J⟩/\S g/\(∀j,j<9->w.cell? ⟨g,i*9+j,J⟩=(PL (ss.getD i ay) (O A' n' c'))[j]?)/\eU w S (ss.getD i ay).expr (O A' n' c')
theorem zt.keep{S:Nat->Prop}{ss:List cZ}(h:zt w S ss A n c)(hk:∀q,S q->w'.heap[q]?=w.heap[q]?)(hs:∀q,S q->S' q):zt w' S' ss A n c:=by refine⟨h.1,h.2.1,λi hi=>?_⟩;obtain⟨g,A',n',c',h1,h2,h3,h4⟩:=h.2.2 i hi;refine⟨g,A',n',c',h1,hs g h2,λj hj=>?_,h4.keep hk hs⟩;rw[<-h3 j hj];simp only[M6,hk g h2]
theorem aqN{p:cZ->Bool}{xs:List cZ}(hk:k<xs.length)(h:p (xs.getD k ay)=Z):xs.any p=Z:=by have e:xs.getD k ay=xs[k]:=zV;rw[e] at h;exact List.any_eq_true.2 ⟨_,rF hk,h⟩
theorem aqO{p:cZ->Bool}{xs:List cZ}(hk:k<xs.length)(h:(xs.take k).any p=X)(h':p (xs.getD k ay)=X):(xs.take (k+1)).any p=X:=by rw[sD hk,List.any_append,h];have e:xs.getD k ay=xs[k]:=zV;rw[e] at h';simp[h']
theorem aqP{xs:List cZ}(h:i<xs.length):xs.getD i ay∈xs:=by have:xs.getD i ay=xs[i]:=U3;rw[this];exact rF h
def aqQ(p:cZ->Bool)(xs:List cZ)(w:Y)(e:Ending)(w':Y):Prop:=∃r:Int,e=aI r/\decide (0<=r)=xs.any p/\aj w w w'
theorem aqR(Fu:FuncId)(p:cZ->Bool)(oo:∀(args:Array ak) (w:Y),(callFunc Fu args).run aa w= .ok (.enter Fu args) w)(xs:List cZ)(S:Nat->Prop)(A:Option aK)(na ca:Nat)(w:Y)(hA:zt w S xs A na ca)(hS:∀q,S q->q<w.heap.size)(jG:na<=100000)
  (hF:∀(y:cZ) (W:Y) (A':Option aK) (n' c':Nat),y∈xs->aj w w W->eU W S y.expr (O A' n' c')->aF aa Fu #[NA y (O A' n' c')] W λe w'=>e=aI (p y)/\aj W W w'):
  aF aa 149 #[O A na ca,.func (.func Fu) #[] #[]] w (aqQ p xs w):=by
 have bH:=hA.1;have gH:=G bH;have HA:=G hA;have HS:=G hS;have HF:=G hF;clear hA hS hF bH;go_enter func149,ntmps149;go_wp2_with fail;go_loopw [8] (λiv wr=>∃i:Nat,iv=C D i/\i<=na/\(xs.take i).any p=X/\aj w w wr) (λiv _=>na-(intOf iv).toNat);case atStart=>exact⟨0,rfl,I,rfl,aN _ _⟩
 obtain⟨i,rfl,hi,hd,aH⟩:=hrel;obtain⟨wo,rfl⟩:=dz wr;have eP:=aH.size;by_cases aO:i<na;case neg=>exact ahl
 have b3:(i:Int)<(na:Int):=I;have dA:i<xs.length:=G9;have kG:=HA.keep (w':=wo) (S':=S) (λq hq=>aH.block q (HS q hq)) (λq hq=>hq);obtain⟨ga,A',n',c',rfl,F5,gT,kY⟩:=kG.2.2 i aO;have HC:=G (HF (xs.getD i ay) wo A' n' c' (aqP dA) aH kY);have HY:af (p (xs.getD i ay)=Z->xs.any p=Z):=λh=>aqN dA h;have HN:af (p (xs.getD i ay)=X->(xs.take (i+1)).any p=X):=λh=>aqO dA hd h;unfold NA at HC;clear kY kG dA hd;generalize xs.getD i ay=y at*;have a0:wo.cell? ⟨ga,i*9,J⟩=N (C D y.kind):=gT 0 aL;have a1:wo.cell? ⟨ga,i*9+1,J⟩=N (C D y.dM):=gT 1 aL;have a2:wo.cell? ⟨ga,i*9+2,J⟩=N (au ⟨y.name.toArray⟩):=gT 2 aL;have a3:wo.cell? ⟨ga,i*9+3,J⟩=N (C D y.expr.hd.kind):=gT 3 aL;have a4:wo.cell? ⟨ga,i*9+4,J⟩=N (C D y.expr.hd.value):=gT 4 aL;have a5:wo.cell? ⟨ga,i*9+5,J⟩=N (C D y.expr.hd.from_):=gT 5 aL;have a6:wo.cell? ⟨ga,i*9+6,J⟩=N (C D y.expr.hd.az):=gT 6 aL;have a7:wo.cell? ⟨ga,i*9+7,J⟩=N (au ⟨y.expr.hd.name.toArray⟩):=gT 7 aL;have a8:wo.cell? ⟨ga,i*9+8,J⟩=N (O A' n' c'):=gT 8 aL;clear gT;generalize p y=py at*;generalize y.expr.hd=yh at*;obtain⟨ou,lN,lQ,gQ,fQ⟩:=yh;obtain⟨sk,sa,sn,se⟩:=y;simp only[] at HC a0 a1 a2 a3 a4 a5 a6 a7;cases py;·have F:=G (HN rfl);clear HN HY;go_wp2_with fail;refine HC.mono ?_;rintro e' w1 ⟨rfl,hb⟩;have HB:=G (aU aH hb);clear hb aH a0 a1 a2 a3 a4 a5 a6 a7 a8;go_wp2_with fail;exact⟨⟨i+1,bR,I,F,HB⟩,bW⟩
 have F:=G (HY rfl);clear HN HY;go_wp2_with fail;refine HC.mono ?_;rintro e' w1 ⟨rfl,hb⟩;have HB:=G (aU aH hb);clear hb aH a0 a1 a2 a3 a4 a5 a6 a7 a8;go_wp2_with fail;go_ret;exact⟨i,rfl,Rq,HB⟩
theorem aqS(Fu:FuncId)(p:cZ->Bool)(oo:∀(args:Array ak) (w:Y),(callFunc Fu args).run aa w= .ok (.enter Fu args) w)(xs:List cZ)(S:Nat->Prop)(A:Option aK)(na ca:Nat)(w:Y)(hA:zt w S xs A na ca)(hS:∀q,S q->q<w.heap.size)(jG:na<=100000)
  (hF:∀(y:cZ) (W:Y) (A':Option aK) (n' c':Nat),y∈xs->aj w w W->eU W S y.expr (O A' n' c')->aF aa Fu #[NA y (O A' n' c')] W λe w'=>e=aI (p y)/\aj W W w'):
  aF aa 77 #[O A na ca,.func (.func Fu) #[] #[]] w λe w'=>e=aI (xs.any p)/\aj w w w':=by have HI:=G (aqR Fu p oo xs S A na ca w hA hS jG hF);clear hA hS hF oo jG;go_enter func77,ntmps77;go_wp2_with fail;exact ahm
theorem aqT(args:Array ak)(w:Y):(callFunc 78 args).run aa w= .ok (.enter 78 args) w:=by simp[go_sem]
theorem aqU(s:cZ)(v:ak)(b:Bool)(w:Y)(hp:∀W,aj w w W->aF aa 79 #[NA s v] W λe w'=>e=aI b/\aj W W w'):
  aF aa 78 #[NA s v] w λe w'=>e=aI (!b)/\aj w w w':=by obtain⟨sk,sa,sn,x⟩:=s;unfold NA at hp |-;simp only[] at hp |-;generalize x.hd=h at*;obtain⟨kd,vl,fr,az,nm⟩:=h;simp only[] at hp |-;have HP:=G hp;have aP:=G ((aN w w).alloc (aC _) (ag #[sk,sa,sn,kd,vl,fr,az,nm,v] 130));clear hp;go_enter func78,ntmps78;exact ahn
instance:Inhabited di:=⟨⟨[],X,[],0⟩⟩
def tZ(w:Y)(S:Nat->Prop)(p:List di)(A:Option aK)(n c:Nat):Prop:=
 n=p.length/\n<=c/\∀i,i<n->∃g A' n' c',A=N ⟨g,0,J⟩/\S g/\w.cell? ⟨g,i*4,J⟩=N (au ⟨(p.getD i ay).name.toArray⟩)/\w.cell? ⟨g,i*4+1,J⟩=N (ax (p.getD i ay).pair)/\w.cell? ⟨g,i*4+2,J⟩=N (O A' n' c')/\w.cell? ⟨g,i*4+3,J⟩=N (C D (p.getD i ay).az)/\zt w S (p.getD i ay).stmts A' n' c'
theorem tZ.keep{S:Nat->Prop}{p:List di}(h:tZ w S p A n c)(hk:∀q,S q->w'.heap[q]?=w.heap[q]?)(hs:∀q,S q->S' q):tZ w' S' p A n c:=by
 refine⟨h.1,h.2.1,λi hi=>?_⟩;obtain⟨g,A',n',c',h1,h2,h3,h4,h5,h6,h7⟩:=h.2.2 i hi;have e:∀o,w'.cell? ⟨g,o,J⟩=w.cell? ⟨g,o,J⟩:=λo=>by simp only[M6,hk g h2]
 exact⟨g,A',n',c',h1,hs g h2,by rw[e,h3],by rw[e,h4],by rw[e,h5],by rw[e,h6],h7.keep hk hs⟩
theorem aqV{p:List di}(hk:k<p.length)(h:jK (p.getD k ay)=X):jT p=X:=by have e:p.getD k ay=p[k]:=zV;rw[e] at h;unfold jT;rw[Bool.and_eq_false_iff];left;rw[List.all_eq_false];exact⟨_,rF hk,by rw[h];simp⟩
theorem aqW{p:List di}(hk:k<p.length)(h:(p.take k).all jK=Z)(h':jK (p.getD k ay)=Z):(p.take (k+1)).all jK=Z:=by rw[sD hk,List.all_append,h];have e:p.getD k ay=p[k]:=zV;rw[e] at h';simp[h']
theorem aqX(l:List cZ):(l.any λy=> !o5 y)= !l.all o5:=by
 induction l with
 |nil=>rfl
 |cons a t ih=>simp only[List.any_cons,zh,ih,Bool.not_and]
def zu(r:di):Prop:=r.name.length<=8000/\r.stmts.length<=100000/\∀s∈r.stmts,s.name.length<=8000/\yD s.expr/\s.expr.sz<=1000000
theorem aqY(r:di)(hr:zu r)(S:Nat->Prop)(A:Option aK)(na ca:Nat)(w:Y)(hE:Env w)(hA:zt w S r.stmts A na ca)(hS:∀q,S q->q<w.heap.size):
  aF aa 77 #[O A na ca,.func (.func 78) #[] #[]] w λe w'=>e=aI (!r.stmts.all o5)/\aj w w w':=by rw[<-aqX];refine aqS 78 (λy=> !o5 y) aqT r.stmts S A na ca w hA hS (by rw[hA.1];exact hr.2.1) ?_;intro y W A' n' c' hy hb kY;have hs:=hb.size;obtain⟨z1,z2,z3⟩:=hr.2.2 y hy;refine aqU y (O A' n' c') (o5 y) W ?_;intro W2 aJ;have fw:=aJ.size;exact aqM y W2 S A' n' c' ((hE.after hb).after aJ) (kY.keep (λq hq=>aJ.block q (by have:=hS q hq;omega)) (λq hq=>hq)) (λq hq=>by have:=hS q hq;omega) z2 z1 z3
def NI(ts:List Tok)(k:Nat)(nm:List UInt8)(pr:Bool)(k':Nat)(b':Bool):Prop:=
 k<=k'/\(b'=X->k<k'/\Fw ((aZ ts).drop k)=N ((nm,pr),(aZ ts).drop k'))/\(b'=Z->Fw ((aZ ts).drop k)=J)
def hd4(ts:List Tok)(q:Nat × Bool):Nat × Bool:=if pk ts q.1 q.2==qb then(q.1+1,q.2) else dP ts sF q
theorem arD:sJ ts k Z=([],k,Z):=by unfold sJ;rw[acd];rfl
theorem NJ:dP ts s (k,Z)=(k,Z):=rfl
theorem arE:(kL ts lo hi k Z).2=(k,Z):=by unfold kL;rw[acd];rfl
theorem NI.of(aY:∀t∈ts,t.text≠ [])
  (h1:dP ts uG (k,X)=(k1,b1)) (h2:sJ ts k1 b1=(nm,k2,b2)) (h3:dP ts tF (k2,b2)=(k3,b3)) (h4:hd4 ts (k3,b3)=(k4,b4)) (h5:dP ts [123] (k4,b4)=(k5,b5)):
  NI ts k nm (pk ts k3 b3==qb) k5 b5:=by
 obtain⟨r0,r1,r2⟩:=qQ (ts:=ts) (s:=uG) (k:=k) (bad:=X) aL;rw[h1] at r0 r1 r2;simp only[] at r0 r1 r2;cases b1;case true=>
  rw[arD] at h2;simp only[xL] at h2;obtain⟨rfl,rfl,rfl⟩:=h2;rw[NJ] at h3;simp only[xL] at h3;obtain⟨rfl,rfl⟩:=h3;have e4:hd4 ts (k1,Z)=(k1,Z):=by rfl
  rw[e4] at h4;simp only[xL] at h4;obtain⟨rfl,rfl⟩:=h4;rw[NJ] at h5;simp only[xL] at h5;obtain⟨rfl,rfl⟩:=h5;refine⟨r0,λq=>yn,λ_=>?_⟩;rcases r2 rfl with a|a;·cases a
  unfold Fw;rw[a];rfl
 case false=>
 obtain⟨_,rfl,VN⟩:=r1 rfl;have e1:Fw ((aZ ts).drop k)=(wD ((aZ ts).drop (k+1))).bind λv=>(eF tF v.2).bind λr1=>
  if bN r1=qb then(eF [123] r1.tail).map λr2=>((v.1,Z),r2) else(eF sF r1).bind λr2=>(eF [123] r2).map λr3=>((v.1,X),r3):=by
  unfold Fw;rw[VN];rfl
 obtain⟨m0,m1,m2⟩:=VI aY (k:=k+1);rw[h2] at m0 m1 m2;simp only[] at m0 m1 m2;cases b2;case true=>
  rw[NJ] at h3;simp only[xL] at h3;obtain⟨rfl,rfl⟩:=h3;have e4:hd4 ts (k2,Z)=(k2,Z):=by rfl
  rw[e4] at h4;simp only[xL] at h4;obtain⟨rfl,rfl⟩:=h4;rw[NJ] at h5;simp only[xL] at h5;obtain⟨rfl,rfl⟩:=h5;refine⟨I,λq=>yn,λ_=>?_⟩;rw[e1,m2 rfl];rfl
 case false=>
 obtain⟨rfl,VO⟩:=m1 rfl;rw[VO] at e1;simp only[bZ] at e1;obtain⟨g0,g1,g2⟩:=qQ (ts:=ts) (s:=tF) (k:=k+1+1) (bad:=X) aL;rw[h3] at g0 g1 g2;simp only[] at g0 g1 g2;cases b3;case true=>
  have e4:hd4 ts (k3,Z)=(k3,Z):=by rfl
  rw[e4] at h4;simp only[xL] at h4;obtain⟨rfl,rfl⟩:=h4;rw[NJ] at h5;simp only[xL] at h5;obtain⟨rfl,rfl⟩:=h5;refine⟨I,λq=>yn,λ_=>?_⟩;rcases g2 rfl with a|a;·cases a
  rw[e1,a];rfl
 case false=>
 obtain⟨_,rfl,g1x⟩:=g1 rfl;rw[g1x] at e1;simp only[bZ] at e1;unfold hd4 at h4;simp only[] at h4;cases hp:(pk ts (k+1+1+1) X==qb);case true=>
  rw[hp] at h4;simp only[if_true,xL] at h4;obtain⟨rfl,rfl⟩:=h4;have DX:bN ((aZ ts).drop (k+1+1+1))=qb:=by rw[beq_iff_eq] at hp;exact hp
  rw[if_pos DX,Ai] at e1;obtain⟨d0,d1,d2⟩:=qQ (ts:=ts) (s:= [123]) (k:=k+1+1+1+1) (bad:=X) aG;rw[h5] at d0 d1 d2;simp only[] at d0 d1 d2;refine⟨I,λq=>?_,λq=>?_⟩;·obtain⟨_,rfl,VP⟩:=d1 q;exact⟨I,by rw[e1,VP];rfl⟩
  rcases d2 q with a|a;·cases a
  rw[e1,a];rfl
 rw[hp] at h4;simp only[lK,if_false] at h4;have DX:bN ((aZ ts).drop (k+1+1+1))≠qb:=by rw[beq_eq_false_iff_ne] at hp;exact hp
 rw[if_neg DX] at e1;obtain⟨c0,c1,c2⟩:=qQ (ts:=ts) (s:=sF) (k:=k+1+1+1) (bad:=X) aL;rw[h4] at c0 c1 c2;simp only[] at c0 c1 c2;obtain⟨d0,d1,d2⟩:=qQ (ts:=ts) (s:= [123]) (k:=k4) (bad:=b4) aG;rw[h5] at d0 d1 d2;simp only[] at d0 d1 d2;have ahR:b4=Z->Fw ((aZ ts).drop k)=J:=λq=>by
  rcases c2 q with a|a;·cases a
  rw[e1,a];rfl
 refine⟨I,λq=>?_,λq=>?_⟩;·obtain⟨rfl,rfl,VP⟩:=d1 q;obtain⟨_,rfl,PT⟩:=c1 rfl;rw[PT] at e1;simp only[bZ] at e1;exact⟨I,by rw[e1,VP];rfl⟩
 rcases d2 q with a|a;·exact ahR a
 cases b4;·obtain⟨_,rfl,PT⟩:=c1 rfl;rw[PT] at e1;simp only[bZ] at e1;rw[e1,a];rfl
 exact ahR rfl
def Le(n:Nat)(ts:List Tok)(k:Nat)(ss:List cZ)(k':Nat)(b':Bool):Prop:=
 k<=k'/\(b'=X->k+ss.length<=k'/\∀m,zk n (m+ss.length) ((aZ ts).drop k)=(zk n m ((aZ ts).drop k')).map λq=>(ss++q.1,q.2))/\
  (b'=Z->∀m,ts.length+1<=m->zk n m ((aZ ts).drop k)=J)
theorem Le.start(n:Nat)(ts:List Tok)(k:Nat):Le n ts k [] k X:=⟨aC _,λ_=>⟨aG,λm=>by simp⟩,λq=>by cases q⟩
theorem Le.step{ss:List cZ}{s:cZ}(h:Le n ts k ss k1 X)(hl:k1<=ts.length)(qx:(pk ts k1 X==kU)=X)(hs:VK n ts k1 s k2 b2):Le n ts k (ss++ [s]) k2 b2:=by
 obtain⟨h0,h1,_⟩:=h;obtain⟨h1,h2⟩:=h1 rfl;obtain⟨s0,s1,s2⟩:=hs;have hpk':bN ((aZ ts).drop k1)≠kU:=by rw[beq_eq_false_iff_ne] at qx;exact qx
 refine⟨I,λq=>?_,λq m hm=>?_⟩
 ·obtain⟨a,b⟩:=s1 q;refine⟨OU,λm=>?_⟩;have e:m+(ss++ [s]).length=(m+1)+ss.length:=OU;rw[e,h2 (m+1)];rw[zk,if_neg hpk',b];simp only[bZ];cases zk n m ((aZ ts).drop k2) with
  |none=>rfl
  |some q=>simp
 have Im:m=(m-ss.length-1+1)+ss.length:=by omega
 rw[Im,h2];rw[zk,if_neg hpk',s2 q];rfl
def VQ(ts:List Tok)(k:Nat)(az:Int)(k':Nat)(b':Bool):Prop:=
 k<=k'/\(b'=X->k<k'/\JD ((aZ ts).drop k)=N (az,(aZ ts).drop k'))/\(b'=Z->JD ((aZ ts).drop k)=J)
theorem VQ.of(h1:dP ts kU (k,X)=(k1,b1))(h2:kL ts 1 99999 k1 b1=(az,k2,b2))(h3:dP ts [59] (k2,b2)=(k3,b3))(h4:dP ts [125] (k3,b3)=(k4,b4)):VQ ts k az k4 b4:=by
 obtain⟨r0,r1,r2⟩:=qQ (ts:=ts) (s:=kU) (k:=k) (bad:=X) aL;rw[h1] at r0 r1 r2;obtain⟨m1,m2⟩:=PD (ts:=ts) (lo:=1) (hi:=99999) (k:=k1) (bad:=b1);have m0:=Nq (ts:=ts) (lo:=1) (hi:=99999) (k:=k1) (bad:=b1);rw[h2] at m0 m1 m2;obtain⟨c0,c1,c2⟩:=qQ (ts:=ts) (s:= [59]) (k:=k2) (bad:=b2) aG;rw[h3] at c0 c1 c2;obtain⟨d0,d1,d2⟩:=qQ (ts:=ts) (s:= [125]) (k:=k3) (bad:=b3) aG;rw[h4] at d0 d1 d2;simp only[] at r0 r1 r2 m0 m1 m2 c0 c1 c2 d0 d1 d2;refine⟨I,λq=>?_,λq=>?_⟩;·obtain⟨rfl,rfl,VP⟩:=d1 q;obtain⟨rfl,rfl,PT⟩:=c1 rfl;obtain⟨rfl,rfl,VO⟩:=m1 rfl;obtain⟨_,rfl,VN⟩:=r1 rfl;refine⟨I,?_⟩;unfold JD sG;rw[VN];simp only[bZ];rw[VO];simp only[bZ];rw[PT];simp only[bZ];rw[VP];rfl
 unfold JD sG;cases b1;case true=>
  rcases r2 rfl with a|a;·cases a
  rw[a];rfl
 obtain⟨_,rfl,VN⟩:=r1 rfl;rw[VN];simp only[bZ];cases b2;case true=>
  rcases m2 rfl with a|a;·cases a
  rw[a];rfl
 obtain⟨_,rfl,VO⟩:=m1 rfl;rw[VO];simp only[bZ];cases b3;case true=>
  rcases c2 rfl with a|a;·cases a
  rw[a];rfl
 obtain⟨_,rfl,PT⟩:=c1 rfl;rw[PT];simp only[bZ];rcases d2 q with a|a;·cases a
 rw[a];rfl
def BN(n:Nat)(ts:List Tok)(k:Nat)(r:di)(k':Nat)(b':Bool):Prop:=
 k<=k'/\(b'=X->k<k'/\∀m,ts.length+1<=m->Fx n m ((aZ ts).drop k)=N (r,(aZ ts).drop k'))/\
  (b'=Z->∀m,ts.length+1<=m->Fx n m ((aZ ts).drop k)=J)
theorem BN.PG(h:NI ts k nm pr k' Z)(hk:k'<=k2):BN n ts k r k2 Z:=⟨Y3,λq=>yn,λ_ m _=>by unfold Fx;rw[h.2.2 rfl];rfl⟩
theorem BN.JK{ss:List cZ}(h:NI ts k nm pr k1 X)(hl:Le n ts k1 ss k' Z)(hk:k'<=k2):BN n ts k r k2 Z:=by have h0:=h.1;have h1:=hl.1;refine⟨I,λq=>yn,λ_ m hm=>?_⟩;unfold Fx;rw[(h.2.1 rfl).2];simp only[bZ];rw[hl.2.2 rfl m hm];rfl
theorem BN.of{ss:List cZ}(h:NI ts k nm pr k1 X)(hl:Le n ts k1 ss k2 X)(hk:k2<=ts.length)(qx:(pk ts k2 X==kU)=Z)(he:VQ ts k2 az k3 b3):BN n ts k ⟨nm,pr,ss,az⟩ k3 b3:=by
 obtain⟨h0,h1,_⟩:=h;obtain⟨h1,h2⟩:=h1 rfl;obtain⟨l0,l1,_⟩:=hl;obtain⟨l1,l2⟩:=l1 rfl;obtain⟨e0,e1,e2⟩:=he;have hpk':bN ((aZ ts).drop k2)=kU:=by rw[beq_iff_eq] at qx;exact qx
 have hS:∀m,ts.length+1<=m->zk n m ((aZ ts).drop k1)=N (ss,(aZ ts).drop k2):=λm hm=>by have Im:m=(m-ss.length-1+1)+ss.length:=I;rw[Im,l2];rw[zk,if_pos hpk'];simp
 refine⟨I,λq=>⟨by have:=(e1 q).1;omega,λm hm=>?_⟩,λq m hm=>?_⟩;·unfold Fx;rw[h2];simp only[bZ];rw[hS m hm];simp only[bZ];rw[(e1 q).2];rfl
 unfold Fx;rw[h2];simp only[bZ];rw[hS m hm];simp only[bZ];rw[e2 q];rfl
def Lf(n:Nat)(ts:List Tok)(p:List di)(k':Nat)(b':Bool):Prop:=
 (b'=X->p.length<=k'/\∀m j,ts.length+1<=m->tJ n m (j+p.length) (aZ ts)=(tJ n m j ((aZ ts).drop k')).map λq=>p++q)/\
  (b'=Z->∀m j,ts.length+1<=m->ts.length+1<=j->tJ n m j (aZ ts)=J)
theorem Lf.start(n:Nat)(ts:List Tok):Lf n ts [] 0 X:=⟨λ_=>⟨aG,λm j _=>by simp⟩,λq=>by cases q⟩
theorem Lf.step{p:List di}(h:Lf n ts p k1 X)(hk:k1<ts.length)(hr:BN n ts k1 r k2 b2):Lf n ts (p++ [r]) k2 b2:=by
 obtain⟨h1,_⟩:=h;obtain⟨h1,h2⟩:=h1 rfl;obtain⟨_,r1,r2⟩:=hr;have aY:(aZ ts).drop k1≠ []:=by intro e;have:=JC.1 e;unfold aZ at this;rw[oz] at this;omega
 refine⟨λq=>?_,λq m j hm hj=>?_⟩
 ·obtain⟨a,b⟩:=r1 q;refine⟨OU,λm j hm=>?_⟩;have e:j+(p++ [r]).length=(j+1)+p.length:=OU;rw[e,h2 m (j+1) hm];rw[tJ,if_neg aY,b m hm];simp only[bZ];cases tJ n m j ((aZ ts).drop k2) with
  |none=>rfl
  |some q=>simp
 have Ik:j=(j-p.length-1+1)+p.length:=by omega
 rw[Ik,h2 m _ hm];rw[tJ,if_neg aY,r2 q m hm];rfl
theorem Lf.done{p:List di}(h:Lf n ts p k X)(hk:ts.length<=k)(qF:k<=ts.length)(m j:Nat)(hm:ts.length+1<=m)(hj:ts.length+1<=j):tJ n m j (aZ ts)=N p:=by obtain⟨h1,_⟩:=h;obtain⟨h1,h2⟩:=h1 rfl;have Ik:j=(j-p.length-1+1)+p.length:=I;have e:(aZ ts).drop k= []:=JC.2 (by unfold aZ;rw[oz];omega);rw[Ik,h2 m _ hm,e];rw[tJ,if_pos rfl];simp
theorem eU.strong{S:Nat->Prop}:∀ {x:Ex} {v:ak},eU w S x v->eU w (λq=>S q/\∃cs,ai w q 128 cs) x v:=by
 intro x;induction x with
 |lf h=>intro v hv;exact hv
 |un h x ih=>rintro v ⟨g,va,e,h1,h3,h4⟩;exact⟨g,va,e,⟨h1,_,h3⟩,h3,ih h4⟩
 |bi h x y ihx ihy=>rintro v ⟨g,va,vb,e,h1,h3,h4,h5⟩;exact⟨g,va,vb,e,⟨h1,_,h3⟩,h3,ihx h4,ihy h5⟩
theorem eU.grown{S:Nat->Prop}{b:Option Nat}(h:eU w S x v)(hg:w.grownBy w' b)(aY:∀q cs,ai w q 128 cs->b≠N q)(hS:∀q,S q->q<w.heap.size):eU w' S x v:=h.strong.keep (λq hq=>by obtain⟨h1,cs,h2⟩:=hq;exact hg.block q (hS q h1) (λe=>aY q cs h2 e.symm)) (λq hq=>hq.1)
theorem ahS{s:Nat}:∀ {rows:List (List ak)} {i j:Nat},(∀r∈rows,r.length=s)->i<rows.length->j<s->rows.flatten[i*s+j]?=(rows.getD i [])[j]?:=by
 intro rows;induction rows with
 |nil=>intro i j _ h;simp at h
 |cons r rows ih=>
  intro i j hr hi hj;have hl:=hr r aG;rw[Sr];cases i with
  |zero=>rw[List.getElem?_append_left I];simp
  |succ i=>rw[List.getElem?_append_right (by rw[hl,Nat.succ_mul];omega),hl,show(i+1)*s+j-s=i*s+j by rw[Nat.succ_mul];omega,ih (λr h=>hr r (F8 _ h)) (by simpa using hi) hj];simp
def Gc(l:List (cZ × ak)):List ak:=(l.map λp=>PL p.1 p.2).flatten
theorem arF(l:List (cZ × ak))(s:cZ)(v:ak):Gc (l++ [(s,v)])=Gc l++PL s v:=by simp[Gc]
theorem arG(s:cZ)(v:ak):(PL s v).length=9:=rfl
def Io(w:Y)(S:Nat->Prop)(l:List (cZ × ak)):Prop:=∀p∈l,(∃A n c,p.2=O A n c)/\eU w S p.1.expr p.2
theorem Io.keep{S:Nat->Prop}{l:List (cZ × ak)}(h:Io w S l)(hk:∀q,S q->w'.heap[q]?=w.heap[q]?)(hs:∀q,S q->S' q):Io w' S' l:=λp hp=>⟨(h p hp).1,(h p hp).2.keep hk hs⟩
theorem Io.grown{S:Nat->Prop}{b:Option Nat}{l:List (cZ × ak)}(h:Io w S l)(hg:w.grownBy w' b)(aY:∀q cs,ai w q 128 cs->b≠N q)(hS:∀q,S q->q<w.heap.size):Io w' S l:=λp hp=>⟨(h p hp).1,(h p hp).2.grown hg aY hS⟩
theorem acE{size:Nat}{T:bM}(h:w.ownsRow base T size v n xs)(hn:0<n):∃g c,v=O (N ⟨g,0,J⟩) n c/\base<=g/\g<w.heap.size/\n<=c/\∀k,k<n*size->w.cell? ⟨g,k,J⟩=xs[k]?:=by
 rcases h.2 with⟨_,h0⟩|⟨g,cap,cur,rfl,hb,hg,hc,_,_,ht⟩;·omega
 refine⟨g,cap,rfl,hb,(JQ.1 hg).1,hc,λk hk=>?_⟩;have hB:ai w g T cur:=hg;rw[hB.cell k,<-ht,List.getElem?_take_of_lt hk];simp
theorem ahT(h:R:=by
  rcases h.2 with⟨rfl,_⟩|⟨g,cap,cur,rfl,_,_,hc,_,_,_⟩;·exact⟨J,0,by rw[h0],aG,I,λi hi=>by omega⟩
  ·exact⟨_,cap,rfl,aG,hc,λi hi=>by omega⟩):R:=h
theorem arH{S:Nat->Prop}{l:List (cZ × ak)}(h:w.ownsRow base 130 9 v l.length (Gc l))(ha:Io w S l)(hS:∀q,base<=q->q<w.heap.size->S q):
  ∃A c,v=O A l.length c/\zt w S (l.map (·.1)) A l.length c:=by
 rcases sw l.length with h0|h0;·exact ahT
 obtain⟨g,c,rfl,hb,hl,hc,uf⟩:=acE h h0;refine⟨_,c,rfl,aG,hc,λi hi=>?_⟩;have zY:i<l.length:=by simpa using hi
 obtain⟨⟨A',n',c',e⟩,ht⟩:=ha l[i] (rF zY);refine⟨g,A',n',c',rfl,hS g hb hl,λj hj=>?_,?_⟩;·rw[uf _ I];unfold Gc;rw[ahS (s:=9) (by intro r hr;obtain⟨p,_,rfl⟩:=qw.1 hr;exact arG _ _) (by simpa using zY) hj];have e1:(l.map λp=>PL p.1 p.2).getD i []=PL l[i].1 l[i].2:=U1;have e2:(l.map (·.1)).getD i ay=l[i].1:=U1;rw[e1,e2,e]
 have e2:(l.map (·.1)).getD i ay=l[i].1:=by simp[dO,zY]
 rw[e2,<-e];exact ht
def Su(r:di)(v:ak):List ak:= [au ⟨r.name.toArray⟩,ax r.pair,v,C D r.az]
def PU(l:List (di × ak)):List ak:=(l.map λp=>Su p.1 p.2).flatten
theorem arI(l:List (di × ak))(s:di)(v:ak):PU (l++ [(s,v)])=PU l++Su s v:=by simp[PU]
theorem arJ(s:di)(v:ak):(Su s v).length=4:=rfl
def Sv(w:Y)(S:Nat->Prop)(l:List (di × ak)):Prop:=∀p∈l,∃A n c,p.2=O A n c/\zt w S p.1.stmts A n c
theorem Sv.keep{S:Nat->Prop}{l:List (di × ak)}(h:Sv w S l)(hk:∀q,S q->w'.heap[q]?=w.heap[q]?)(hs:∀q,S q->S' q):Sv w' S' l:=λp hp=>by obtain⟨A,n,c,e,hi⟩:=h p hp;exact⟨A,n,c,e,hi.keep hk hs⟩
theorem ahU{S:Nat->Prop}{l:List (di × ak)}(h:w.ownsRow base 121 4 v l.length (PU l))(ha:Sv w S l)(hS:∀q,base<=q->q<w.heap.size->S q):
  ∃A c,v=O A l.length c/\tZ w S (l.map (·.1)) A l.length c:=by
 rcases sw l.length with h0|h0;·exact ahT
 obtain⟨g,c,rfl,hb,hl,hc,uf⟩:=acE h h0;refine⟨_,c,rfl,aG,hc,λi hi=>?_⟩;have zY:i<l.length:=by simpa using hi
 obtain⟨A',n',c',e,ht⟩:=ha l[i] (rF zY);have e2:(l.map (·.1)).getD i ay=l[i].1:=U1;have yG:∀j,j<4->w.cell? ⟨g,i*4+j,J⟩=(Su l[i].1 l[i].2)[j]?:=λj hj=>by rw[uf _ I];unfold PU;rw[ahS (s:=4) (by intro r hr;obtain⟨p,_,rfl⟩:=qw.1 hr;exact arJ _ _) (by simpa using zY) hj];have e1:(l.map λp=>Su p.1 p.2).getD i []=Su l[i].1 l[i].2:=U1;rw[e1]
 rw[e2];refine⟨g,A',n',c',rfl,hS g hb hl,yG 0 I,yG 1 I,?_,yG 3 I,ht⟩;rw[yG 2 I,e];rfl
theorem arK:∀(f:Nat) (r:List UInt8) (a:Nat) (ts:List Tok),iK f r a= .ok ts->ts.length<=r.length/\∀t∈ts,t.text≠ []/\t.text.length<=r.length:=by
 intro f;induction f with
 |zero=>intro r a ts h;simp only[iK,Except.ok.injEq] at h;subst h;simp
 |succ f ih=>
  intro r a ts h;unfold iK at h;split at h;·simp only[Except.ok.injEq] at h;subst h;simp
  split at h;·cases h
  rename_i h0;split at h;·cases h
  generalize hq:r.drop (dG X r)=q at h h0;have hl:q.length<=r.length:=by rw[<-hq,MM];omega
  have h1:=RQ h0;have h2:=Zd (l:=q);generalize hts:iK f (q.drop (dB q).2) (a+dG X r+(dB q).2)=cK at h;cases cK with
  |error e=>cases h
  |ok l=>
   obtain⟨i1,i2⟩:=ih _ _ _ hts;rw[MM] at i1 i2;simp only[O7,Except.ok.injEq] at h;subst h;refine⟨YH,λt ht=>?_⟩;rcases jZ.1 ht with e|ht
   ·subst e;have:(q.take (dB q).2).length=(dB q).2:=OW;refine⟨λe=>?_,?_⟩;·show False;have e':q.take (dB q).2= []:=e;rw[e'] at this;simp at this;omega
    show(q.take (dB q).2).length<=_;omega
   have:=i2 t ht;exact⟨this.1,I⟩
theorem arL{l:List UInt8}(h:qA l= .ok ts):ts.length<=8000/\∀t∈ts,t.text≠ []/\t.text.length<=8000:=by
 unfold qA at h;split at h;·cases h
 obtain⟨h1,h2⟩:=arK _ _ _ _ h;exact⟨I,λt ht=>⟨(h2 t ht).1,by have:=(h2 t ht).2;omega⟩⟩
theorem arM:∀(f:Nat) (r:List UInt8) (a:Nat) (e:Int × Int),iK f r a= .error e->e.2≠0:=by
 intro f;induction f with
 |zero=>intro r a e h;cases h
 |succ f ih=>
  intro r a e h;unfold iK at h;split at h;·cases h
  split at h;·cases h;simp
  split at h;·cases h;simp
  generalize hq:r.drop (dG X r)=q at h;generalize hts:iK f (q.drop (dB q).2) (a+dG X r+(dB q).2)=cK at h;cases cK with
  |error e'=>simp only[O7,Except.error.injEq] at h;subst h;exact ih _ _ _ hts
  |ok l=>cases h
theorem arN{l:List UInt8}{e:Int × Int}(h:qA l= .error e):e.2≠0:=by
 unfold qA at h;split at h;·cases h;simp
 exact arM _ _ _ _ h
def qI(ts:List Tk):Prop:=∀t∈ts,t.2.length<=8000
theorem qI.tail{t:Tk}{r:List Tk}(h:qI (t::r)):qI r:=λx hx=>h x (F8 _ hx)
theorem qI.tl{ts:List Tk}(h:qI ts):qI ts.tail:=by
 cases ts with
 |nil=>exact h
 |cons t r=>exact h.tail
theorem ahV(h:R:=by
  split at h;·simp only[kH] at h;subst h;exact⟨hL.tail,aG⟩
  ·cases h):R:=h
theorem wN{ts r:List Tk}(h:eF s ts=N r)(hL:qI ts):qI r/\r.length+1<=ts.length:=by
 cases ts with
 |nil=>cases h
 |cons t l=>simp only[eF] at h;exact ahV
theorem Sw{ts:List Tk}{q:Int × List Tk}(h:tH lo hi ts=N q)(hL:qI ts):qI q.2/\q.2.length+1<=ts.length:=by
 cases ts with
 |nil=>cases h
 |cons t l=>simp only[tH] at h;exact ahV
theorem acF{ts:List Tk}{q:List UInt8 × List Tk}(h:wD ts=N q)(hL:qI ts):qI q.2/\q.2.length+1<=ts.length/\q.1.length<=8000:=by
 cases ts with
 |nil=>cases h
 |cons t l=>
  simp only[wD] at h;split at h;·simp only[kH] at h;subst h;exact⟨hL.tail,aG,hL t aG⟩
  cases h
theorem arO{k:Int}{ts:List Tk}{q:Ex × List Tk}(h:CJ k ts=N q)(hL:qI ts):qI q.2/\yD q.1/\q.1.sz+q.2.length<=ts.length:=by
 unfold CJ sG at h;cases h1:eF [40] ts with
 |none=>rw[h1] at h;cases h
 |some r1=>
  rw[h1] at h;simp only[bZ] at h;have g1:=wN h1 hL;cases h2:tH 1 99999 r1 with
  |none=>rw[h2] at h;cases h
  |some a=>
   rw[h2] at h;simp only[bZ] at h;have g2:=Sw h2 g1.1;cases h3:eF [46,46] a.2 with
   |none=>rw[h3] at h;cases h
   |some r2=>
    rw[h3] at h;simp only[bZ] at h;have g3:=wN h3 g2.1;cases h4:tH 1 99999 r2 with
    |none=>rw[h4] at h;cases h
    |some b=>
     rw[h4] at h;simp only[bZ] at h;have g4:=Sw h4 g3.1;cases h5:eF [41] b.2 with
     |none=>rw[h5] at h;cases h
     |some r3=>rw[h5] at h;simp only[qh,kH] at h;have g5:=wN h5 g4.1;subst h;exact⟨g5.1,by simp[yD],MO⟩
def wO:Md->Nat
 | .loop _ x=>x.sz
 |_=>0
def arP:Md->Prop
 | .loop _ x=>yD x
 |_=>True
theorem PV{ts:List Tk}(h:bN ts=s)(hs:s≠ []):ts.tail.length+1=ts.length:=by
 cases ts with
 |nil=>exact absurd h (λe=>hs e.symm)
 |cons t r=>simp
theorem ahW{l:Nat}{ts:List Tk}{k:Int}(h:xB l ts=N k):ts.tail.length+1=ts.length:=by
 cases ts with
 |nil=>rw[Vv] at h;have:bN ([]:List Tk)= []:=rfl;rw[this,ZB] at h;cases h
 |cons t r=>simp
theorem acG:∀(n:Nat) (md:Md) (ts:List Tk) (q:Ex × List Tk),pE n md ts=N q->qI ts->arP md->qI q.2/\yD q.1/\q.1.sz+q.2.length<=ts.length+wO md:=by
 intro n;induction n with
 |zero=>intro md ts q h;simp[pE] at h
 |succ n ih=>
  intro md ts q h hL hm;cases md with
  |bG l=>
   simp only[pE] at h;simp only[wO,mZ];split at h;·exact ih _ _ _ h hL trivial
   split at h
   ·split at h
    ·rename_i h1;have hc:=PV h1 aL;cases e:pE n (.bG 3) ts.tail with
     |none=>rw[e] at h;cases h
     |some q'=>rw[e] at h;simp only[qh,kH] at h;obtain⟨a,b,c⟩:=ih _ _ _ e hL.tl trivial;subst h;simp only[wO,mZ] at c;exact⟨a,⟨RG,b⟩,MO⟩
    exact ih _ _ _ h hL trivial
   split at h
   ·cases e:pE n (.bG 5) ts with
    |none=>rw[e] at h;cases h
    |some q'=>
     rw[e] at h;simp only[bZ] at h;obtain⟨a,b,c⟩:=ih _ _ _ e hL trivial;simp only[wO,mZ] at c;split at h;·simp only[kH] at h;subst h;exact⟨a,b,c⟩
     rename_i k hf;have hc:=ahW hf;cases e2:pE n (.bG 5) q'.2.tail with
     |none=>rw[e2] at h;cases h
     |some q2=>rw[e2] at h;simp only[qh,kH] at h;obtain⟨a2,b2,c2⟩:=ih _ _ _ e2 a.tl trivial;simp only[wO,mZ] at c2;subst h;exact⟨a2,⟨RG,b,b2⟩,MO⟩
   split at h;·exact ih _ _ _ h hL trivial
   split at h
   ·rename_i h1;have hc:=PV h1.2 aL;cases e:pE n (.bG 7) ts.tail with
    |none=>rw[e] at h;cases h
    |some q'=>rw[e] at h;simp only[qh,kH] at h;obtain⟨a,b,c⟩:=ih _ _ _ e hL.tl trivial;simp only[wO,mZ] at c;subst h;exact⟨a,⟨RG,b⟩,MO⟩
   exact ih _ _ _ h hL trivial
  |bin l=>
   simp only[pE] at h;simp only[wO,mZ];cases e:pE n (.bG (l+1)) ts with
   |none=>rw[e] at h;cases h
   |some q'=>rw[e] at h;simp only[bZ] at h;obtain⟨a,b,c⟩:=ih _ _ _ e hL trivial;simp only[wO,mZ] at c;obtain⟨a2,b2,c2⟩:=ih _ _ _ h a b;simp only[wO] at c2;exact⟨a2,b2,I⟩
  |loop l x=>
   simp only[pE] at h;simp only[wO];have hx:yD x:=hm;split at h
   ·rename_i h1;have hc:=PV h1.2 aL;cases e:tH 1 1000000000000 ts.tail with
    |none=>rw[e] at h;cases h
    |some v=>rw[e] at h;simp only[bZ] at h;have g:=Sw e hL.tl;obtain⟨a2,b2,c2⟩:=ih _ _ _ h g.1 (by exact⟨aG,hx⟩);simp only[wO,Ex.sz] at c2;exact⟨a2,b2,I⟩
   split at h;·simp only[kH] at h;subst h;exact⟨hL,hx,dY⟩
   rename_i k hf;have hc:=ahW hf;cases e:pE n (.bG (l+1)) ts.tail with
   |none=>rw[e] at h;cases h
   |some q'=>rw[e] at h;simp only[bZ] at h;obtain⟨a,b,c⟩:=ih _ _ _ e hL.tl trivial;simp only[wO,mZ] at c;obtain⟨a2,b2,c2⟩:=ih _ _ _ h a (by exact⟨RG,hx,b⟩);simp only[wO,Ex.sz] at c2;exact⟨a2,b2,I⟩
  |iU=>
   simp only[pE] at h;simp only[wO,mZ];split at h;·cases h
   rename_i h0;have hc:=PV (ts:=ts) rfl h0;split at h
   ·cases e:pE n (.bG 0) ts.tail with
    |none=>rw[e] at h;cases h
    |some q'=>
     rw[e] at h;simp only[bZ] at h;obtain⟨a,b,c⟩:=ih _ _ _ e hL.tl trivial;simp only[wO,mZ] at c;cases e2:eF [41] q'.2 with
     |none=>rw[e2] at h;cases h
     |some r=>rw[e2] at h;simp only[qh,kH] at h;have g:=wN e2 a;subst h;exact⟨g.1,b,dY⟩
   split at h
   ·cases e0:eF [40] ts.tail with
    |none=>rw[e0] at h;cases h
    |some r0=>
     rw[e0] at h;simp only[bZ] at h;have g0:=wN e0 hL.tl;cases e:pE n (.bG 0) r0 with
     |none=>rw[e] at h;cases h
     |some q'=>
      rw[e] at h;simp only[bZ] at h;obtain⟨a,b,c⟩:=ih _ _ _ e g0.1 trivial;simp only[wO,mZ] at c;cases e2:eF [44] q'.2 with
      |none=>rw[e2] at h;cases h
      |some r1=>
       rw[e2] at h;simp only[bZ] at h;have g2:=wN e2 a;cases e3:pE n (.bG 0) r1 with
       |none=>rw[e3] at h;cases h
       |some q2=>
        rw[e3] at h;simp only[bZ] at h;obtain⟨a3,b3,c3⟩:=ih _ _ _ e3 g2.1 trivial;simp only[wO,mZ] at c3;cases e4:eF [41] q2.2 with
        |none=>rw[e4] at h;cases h
        |some r2=>rw[e4] at h;simp only[qh,kH] at h;have g4:=wN e4 a3;subst h;exact⟨g4.1,⟨RG,b,b3⟩,MO⟩
   split at h
   ·cases e0:eF [40] ts.tail with
    |none=>rw[e0] at h;cases h
    |some r0=>
     rw[e0] at h;simp only[bZ] at h;have g0:=wN e0 hL.tl;cases e:pE n (.bG 0) r0 with
     |none=>rw[e] at h;cases h
     |some q'=>
      rw[e] at h;simp only[bZ] at h;obtain⟨a,b,c⟩:=ih _ _ _ e g0.1 trivial;simp only[wO,mZ] at c;cases e2:eF [41] q'.2 with
      |none=>rw[e2] at h;cases h
      |some r1=>rw[e2] at h;simp only[qh,kH] at h;have g2:=wN e2 a;subst h;exact⟨g2.1,⟨RG,b⟩,MO⟩
   split at h;·obtain⟨a,b,c⟩:=arO h hL.tl;exact⟨a,b,I⟩
   cases ts with
   |nil=>cases h
   |cons t0 r0=>
    simp only[] at h;split at h
    ·cases e:tH 0 1000000000000 (t0::r0) with
     |none=>rw[e] at h;cases h
     |some v=>rw[e] at h;simp only[qh,kH] at h;have g:=Sw e hL;subst h;exact⟨g.1,by simp[yD],MO⟩
    cases e:wD (t0::r0) with
    |none=>rw[e] at h;cases h
    |some v=>rw[e] at h;simp only[qh,kH] at h;have g:=acF e hL;subst h;exact⟨g.1,g.2.2,MO⟩
def ahX(s:cZ)(L:Nat):Prop:=s.name.length<=8000/\yD s.expr/\s.expr.sz<=L
theorem ahY(h:R:=by
  simp only[wO,mZ] at c;cases e3:eF [59] q'.2 with
  |none=>rw[e3] at h;cases h
  |some r2=>rw[e3] at h;simp only[qh,kH] at h;have g3:=wN e3 a;subst h;exact⟨g3.1,dY,aG,b,dY⟩):R:=h
theorem arQ{ts:List Tk}{q:cZ × List Tk}(h:wE n ts=N q)(hL:qI ts):qI q.2/\q.2.length+1<=ts.length/\ahX q.1 ts.length:=by
 unfold wE at h;split at h
 ·rename_i h1;have hc:=PV h1 aL;cases e0:wD ts.tail with
  |none=>rw[e0] at h;cases h
  |some v=>
   rw[e0] at h;simp only[bZ] at h;have g0:=acF e0 hL.tl;cases e1:eF [61] v.2 with
   |none=>rw[e1] at h;cases h
   |some r=>
    rw[e1] at h;simp only[bZ] at h;have g1:=wN e1 g0.1;cases e2:pE n (.bG 0) r with
    |none=>rw[e2] at h;cases h
    |some q'=>
     rw[e2] at h;simp only[bZ] at h;obtain⟨a,b,c⟩:=acG _ _ _ _ e2 g1.1 trivial;simp only[wO,mZ] at c;cases e3:eF [59] q'.2 with
     |none=>rw[e3] at h;cases h
     |some r2=>rw[e3] at h;simp only[qh,kH] at h;have g3:=wN e3 a;subst h;exact⟨g3.1,dY,g0.2.2,b,dY⟩
 split at h
 ·rename_i h1;have hc:=PV h1 aL;cases e2:pE n (.bG 0) ts.tail with
  |none=>rw[e2] at h;cases h
  |some q'=>rw[e2] at h;simp only[bZ] at h;obtain⟨a,b,c⟩:=acG _ _ _ _ e2 hL.tl trivial;exact ahY
 split at h
 ·rename_i h1;have hc:=PV h1 aL;unfold sG at h;cases e1:tH 1 99999 ts.tail with
  |none=>rw[e1] at h;cases h
  |some v=>
   rw[e1] at h;simp only[bZ] at h;have g1:=Sw e1 hL.tl;cases e2:pE n (.bG 0) v.2 with
   |none=>rw[e2] at h;cases h
   |some q'=>rw[e2] at h;simp only[bZ] at h;obtain⟨a,b,c⟩:=acG _ _ _ _ e2 g1.1 trivial;exact ahY
 cases h
theorem arR{L:Nat}:∀(m:Nat) (ts:List Tk) (q:List cZ × List Tk),zk n m ts=N q->qI ts->ts.length<=L->qI q.2/\q.2.length+q.1.length<=ts.length/\∀s∈q.1,ahX s L:=by
 intro m;induction m with
 |zero=>intro ts q h;cases h
 |succ m ih=>
  intro ts q h hL hl;simp only[zk] at h;split at h;·simp only[kH] at h;subst h;exact⟨hL,aG,λs hs=>(by cases hs)⟩
  cases e:wE n ts with
  |none=>rw[e] at h;cases h
  |some s=>
   rw[e] at h;simp only[bZ] at h;have g:=arQ e hL;cases e2:zk n m s.2 with
   |none=>rw[e2] at h;cases h
   |some q'=>
    rw[e2] at h;simp only[qh,kH] at h;obtain⟨a,b,c⟩:=ih _ _ e2 g.1 I;subst h;refine⟨a,YH,λx hx=>?_⟩;rcases jZ.1 hx with rfl|hx;·exact⟨g.2.2.1,g.2.2.2.1,by have:=g.2.2.2.2;omega⟩
    exact c x hx
theorem arS{ts:List Tk}{q:(List UInt8 × Bool) × List Tk}(h:Fw ts=N q)(hL:qI ts):qI q.2/\q.2.length<=ts.length/\q.1.1.length<=8000:=by
 unfold Fw at h;cases e0:eF uG ts with
 |none=>rw[e0] at h;cases h
 |some r0=>
  rw[e0] at h;simp only[bZ] at h;have g0:=wN e0 hL;cases e1:wD r0 with
  |none=>rw[e1] at h;cases h
  |some v=>
   rw[e1] at h;simp only[bZ] at h;have g1:=acF e1 g0.1;cases e2:eF tF v.2 with
   |none=>rw[e2] at h;cases h
   |some r1=>
    rw[e2] at h;simp only[bZ] at h;have g2:=wN e2 g1.1;split at h
    ·cases e3:eF [123] r1.tail with
     |none=>rw[e3] at h;cases h
     |some r2=>rw[e3] at h;simp only[qh,kH] at h;have g3:=wN e3 g2.1.tl;subst h;have:r1.tail.length<=r1.length:=aG;exact⟨g3.1,dY,g1.2.2⟩
    cases e3:eF sF r1 with
    |none=>rw[e3] at h;cases h
    |some r2=>
     rw[e3] at h;simp only[bZ] at h;have g3:=wN e3 g2.1;cases e4:eF [123] r2 with
     |none=>rw[e4] at h;cases h
     |some r3=>rw[e4] at h;simp only[qh,kH] at h;have g4:=wN e4 g3.1;subst h;exact⟨g4.1,dY,g1.2.2⟩
theorem arT{ts:List Tk}{q:Int × List Tk}(h:JD ts=N q)(hL:qI ts):qI q.2/\q.2.length+1<=ts.length:=by
 unfold JD sG at h;cases e0:eF kU ts with
 |none=>rw[e0] at h;cases h
 |some r0=>
  rw[e0] at h;simp only[bZ] at h;have g0:=wN e0 hL;cases e1:tH 1 99999 r0 with
  |none=>rw[e1] at h;cases h
  |some v=>
   rw[e1] at h;simp only[bZ] at h;have g1:=Sw e1 g0.1;cases e2:eF [59] v.2 with
   |none=>rw[e2] at h;cases h
   |some r1=>
    rw[e2] at h;simp only[bZ] at h;have g2:=wN e2 g1.1;cases e3:eF [125] r1 with
    |none=>rw[e3] at h;cases h
    |some r2=>rw[e3] at h;simp only[qh,kH] at h;have g3:=wN e3 g2.1;subst h;exact⟨g3.1,dY⟩
theorem arU{m:Nat}{ts:List Tk}{q:di × List Tk}(h:Fx n m ts=N q)(hL:qI ts)(hl:ts.length<=8000):qI q.2/\q.2.length+1<=ts.length/\zu q.1:=by
 unfold Fx at h;cases e0:Fw ts with
 |none=>rw[e0] at h;cases h
 |some v=>
  rw[e0] at h;simp only[bZ] at h;have g0:=arS e0 hL;cases e1:zk n m v.2 with
  |none=>rw[e1] at h;cases h
  |some s=>
   rw[e1] at h;simp only[bZ] at h;obtain⟨a,b,c⟩:=arR (L:=8000) _ _ _ e1 g0.1 I;cases e2:JD s.2 with
   |none=>rw[e2] at h;cases h
   |some e=>rw[e2] at h;simp only[qh,kH] at h;have g2:=arT e2 a;subst h;exact⟨g2.1,dY,g0.2.2,dY,λx hx=>⟨(c x hx).1,(c x hx).2.1,by have:=(c x hx).2.2;omega⟩⟩
theorem arW{m:Nat}:∀(k:Nat) (ts:List Tk) (p:List di),tJ n m k ts=N p->qI ts->ts.length<=8000->p.length<=ts.length/\∀r∈p,zu r:=by
 intro k;induction k with
 |zero=>intro ts p h;cases h
 |succ k ih=>
  intro ts p h hL hl;simp only[tJ] at h;split at h;·simp only[kH] at h;subst h;exact⟨aG,λr hr=>(by cases hr)⟩
  cases e:Fx n m ts with
  |none=>rw[e] at h;cases h
  |some r=>
   rw[e] at h;simp only[bZ] at h;have g:=arU e hL hl;cases e2:tJ n m k r.2 with
   |none=>rw[e2] at h;cases h
   |some q=>
    rw[e2] at h;simp only[qh,kH] at h;obtain⟨a,b⟩:=ih _ _ e2 g.1 I;subst h;refine⟨YH,λx hx=>?_⟩;rcases jZ.1 hx with rfl|hx;·exact g.2.2
    exact b x hx
structure oD(w0:Y)(g B:Nat)(Al:Option aK)(nl cl:Nat)(ts:List Tok)(e:Int)(k:Nat)(b:Bool)(nm:List UInt8)(pr:Bool)(v:ak)(az:Int)(W:Y):Prop where
 ps:Ps W g B Al nl cl ts e k b
 bt:But g w0 W
 res:ai W w0.heap.size 121 #[au ⟨#[]⟩,ax X,O J 0 0,C D 0]
 box:ai W (w0.heap.size+1) 121 #[au ⟨nm.toArray⟩,ax pr,v,C D az]
 sz:w0.heap.size+2<=W.heap.size
 gl:g<w0.heap.size
section
variable{w0 W W':Y}{g B:Nat}{Al:Option aK}{nl cl:Nat}{ts:List Tok}{e:Int}{k k':Nat}{b b':Bool}{nm:List UInt8}{pr:Bool}{v v':ak}{az to':Int}{VR:List UInt8}{pr':Bool}
theorem oD.call(h:oD w0 g B Al nl cl ts e k b nm pr v az W)(hp:Ps W' g B Al nl cl ts e k' b')(hb:But g W W'):oD w0 g B Al nl cl ts e k' b' nm pr v az W':=⟨hp,h.bt.tr hb,h.res.but hb (by have:=h.gl;omega),h.box.but hb (by have:=h.gl;omega),ja h.sz hb.size,h.gl⟩
theorem oD.below(h:oD w0 g B Al nl cl ts e k b nm pr v az W)(hb:aj W.heap.size W W'):oD w0 g B Al nl cl ts e k b nm pr v az W':=h.call (h.ps.go hb) (But.of hb)
theorem oD.low(h:oD w0 g B Al nl cl ts e k b nm pr v az W)(hb:aj (w0.heap.size+2) W W'):oD w0 g B Al nl cl ts e k b nm pr v az W':=
 ⟨h.ps.heap (λj hj=>hb.block j (by have:=h.gl;omega)),⟨hb.os.trans h.bt.os,hb.tape.trans h.bt.tape,hb.output.trans h.bt.output,ja h.bt.size hb.size,λi hi hn=>(hb.block i I).trans (h.bt.block i hi hn)⟩,
  (hb.block _ I).trans h.res,(hb.block _ I).trans h.box,ja h.sz hb.size,h.gl⟩
theorem oD.Lg(h:oD w0 g B Al nl cl ts e k b nm pr v az W)(q:Nat)(u:ak)(hx:ai (W.setCell ⟨w0.heap.size+1,q,J⟩ u) (w0.heap.size+1) 121 #[au ⟨VR.toArray⟩,ax pr',v',C D to']):oD w0 g B Al nl cl ts e k b VR pr' v' to' (W.setCell ⟨w0.heap.size+1,q,J⟩ u):=
 ⟨h.ps.heap (λj hj=>jm _ _ _ j (by have:=h.gl;show j≠w0.heap.size+1;omega)),h.bt.qG (p:=⟨w0.heap.size+1,q,J⟩) (by show w0.heap.size<=w0.heap.size+1;omega) u,
  h.res.far (p:=⟨w0.heap.size+1,q,J⟩) (by show w0.heap.size≠w0.heap.size+1;omega) u,hx,by simpa using h.sz,h.gl⟩
theorem oD.set0(h:oD w0 g B Al nl cl ts e k b nm pr v az W)(x:List UInt8):oD w0 g B Al nl cl ts e k b x pr v az (W.setCell ⟨w0.heap.size+1,0,J⟩ (au ⟨x.toArray⟩)):=h.Lg 0 _ (by simpa using h.box.bL 0 (au ⟨x.toArray⟩))
theorem oD.set1(h:oD w0 g B Al nl cl ts e k b nm pr v az W)(x:Bool):oD w0 g B Al nl cl ts e k b nm x v az (W.setCell ⟨w0.heap.size+1,1,J⟩ (ax x)):=h.Lg 1 _ (by simpa using h.box.bL 1 (ax x))
theorem oD.set2(h:oD w0 g B Al nl cl ts e k b nm pr v az W)(x:ak):oD w0 g B Al nl cl ts e k b nm pr x az (W.setCell ⟨w0.heap.size+1,2,J⟩ x):=h.Lg 2 _ (by simpa using h.box.bL 2 x)
theorem oD.ZA(h:oD w0 g B Al nl cl ts e k b nm pr v az W)(x:Int):oD w0 g B Al nl cl ts e k b nm pr v x (W.setCell ⟨w0.heap.size+1,3,J⟩ (C D x)):=h.Lg 3 _ (by simpa using h.box.bL 3 (C D x))
theorem oD.cells(h:oD w0 g B Al nl cl ts e k b nm pr v az W):W.cell? ⟨w0.heap.size+1,0,J⟩=N (au ⟨nm.toArray⟩)/\W.cell? ⟨w0.heap.size+1,1,J⟩=N (ax pr)/\W.cell? ⟨w0.heap.size+1,2,J⟩=N v/\W.cell? ⟨w0.heap.size+1,3,J⟩=N (C D az):=⟨h.box.cell 0,h.box.cell 1,h.box.cell 2,h.box.cell 3⟩
theorem oD.arX(h:oD w0 g B Al nl cl ts e k b nm pr v az W):W.cell? ⟨w0.heap.size,0,J⟩=N (au ⟨#[]⟩)/\W.cell? ⟨w0.heap.size,1,J⟩=N (ax X)/\W.cell? ⟨w0.heap.size,2,J⟩=N (O J 0 0)/\W.cell? ⟨w0.heap.size,3,J⟩=N (C D 0):=⟨h.res.cell 0,h.res.cell 1,h.res.cell 2,h.res.cell 3⟩
end
def Ej(n:Nat)(ts:List Tok)(k5:Nat)(b5:Bool)(ss:List cZ)(k':Nat)(b':Bool):Prop:=(b5=X->Le n ts k5 ss k' b')/\(b5=Z->k'=k5/\b'=Z/\ss= [])/\(b'=X->b5=X/\ss.length<=k')/\ss.length<=k'+1
theorem Ej.start(n:Nat)(ts:List Tok)(k:Nat)(b:Bool):Ej n ts k b [] k b:=⟨λh=>by subst h;exact Le.start n ts k,λh=>⟨rfl,h,rfl⟩,λh=>⟨h,aG⟩,aG⟩
theorem Ej.len{l:List (cZ × ak)}{b':Bool}(h:Ej n ts k5 b5 (l.map (·.1)) k' b')(hk:k'<=ts.length):l.length<=ts.length+1:=by have:=h.2.2.2;rw[oz] at this;omega
theorem ahZ(h:R:=by simp only[eB,kE,List.map_nil,mf];omega):R:=h
theorem Ej.step{l:List (cZ × ak)}{s:cZ}(h:Ej n ts k5 b5 (l.map (·.1)) k1 X)(hl:k1<=ts.length)(qx:(pk ts k1 X==kU)=X)(hs:VK n ts k1 s k2 b2)(v:ak):Ej n ts k5 b5 ((l++ [(s,v)]).map (·.1)) k2 b2:=by
 obtain⟨hb,hsl⟩:=h.2.2.1 rfl;subst hb;rw[oM];obtain⟨s0,s1,s2⟩:=hs;refine⟨λ_=>(h.1 rfl).step hl qx ⟨s0,s1,s2⟩,λq=>yn,λq=>⟨rfl,?_⟩,?_⟩;·have:=(s1 q).1;exact ahZ
 exact ahZ
theorem Ej.arY{l:List (cZ × ak)}{k9:Nat}{b9:Bool}(h:Ej n ts k5 b5 (l.map (·.1)) k' X)(hr:NI ts k nm pr k5 b5)(hk:k'<=ts.length)(qx:(pk ts k' X==kU)=Z)(he:VQ ts k' az k9 b9):BN n ts k ⟨nm,pr,l.map (·.1),az⟩ k9 b9:=by obtain⟨hb,_⟩:=h.2.2.1 rfl;subst hb;exact BN.of hr (h.1 rfl) hk qx he
theorem Ej.acm{l:List (cZ × ak)}{k6 k7 k8 k9:Nat}{b6 b7 b8 b9:Bool}(h:Ej n ts k5 b5 (l.map (·.1)) k' Z)(hr:NI ts k nm pr k5 b5)
  (h6:dP ts kU (k',Z)=(k6,b6)) (h7:kL ts 1 99999 k6 b6=(az,k7,b7)) (h8:dP ts [59] (k7,b7)=(k8,b8)) (h9:dP ts [125] (k8,b8)=(k9,b9)):BN n ts k ⟨nm,pr,l.map (·.1),az⟩ k9 b9:=by
 rw[NJ] at h6;simp only[xL] at h6;obtain⟨rfl,rfl⟩:=h6;have e7:=arE (ts:=ts) (lo:=1) (hi:=99999) (k:=k');rw[h7] at e7;simp only[xL] at e7;obtain⟨rfl,rfl⟩:=e7;rw[NJ] at h8;simp only[xL] at h8;obtain⟨rfl,rfl⟩:=h8;rw[NJ] at h9;simp only[xL] at h9;obtain⟨rfl,rfl⟩:=h9;cases b5 with
 |true=>obtain⟨rfl,_⟩:=h.2.1 rfl;exact BN.PG hr (aC _)
 |false=>exact BN.JK hr (h.1 rfl) (aC _)
section
variable{w:Y}{g B:Nat}{Al:Option aK}{nl cl:Nat}{ts:List Tok}{e:Int}{k:Nat}{bad:Bool}
theorem arZ(h:Ps w g B Al nl cl ts e k bad)(s t:List UInt8)(hs:s≠ [])(ht:t≠ []):aF aa 142 #[aQ (N ⟨g,0,J⟩),O (N ⟨w.heap.size,0,J⟩) 2 2] (w.alloc (ag #[au ⟨s.toArray⟩,au ⟨t.toArray⟩] 9)) λe' w'=>e'=aI (bz #[])/\Ps w' g B Al nl cl ts e (dP ts t (dP ts s (k,bad))).1 (dP ts t (dP ts s (k,bad))).2/\But g w w':=by have hb:=(aN w.heap.size w).alloc (aC _) (ag #[au ⟨s.toArray⟩,au ⟨t.toArray⟩] 9);have hl:=h.lt;refine(agw (h.go hb) [s,t] w.heap.size 2 (ai.new w _ _) I (by intro x hx;simp only[jZ,nJ,or_false] at hx;rcases hx with rfl|rfl<;>assumption) aG).mono ?_;rintro e' w' ⟨rfl,h1,h2⟩;exact⟨rfl,h1,(But.of hb).tr h2⟩
end
abbrev Sy(w:Y)(g:Nat)(a b c d:ak):Y:=(((w.setCell ⟨g,0,J⟩ a).setCell ⟨g,1,J⟩ b).setCell ⟨g,2,J⟩ c).setCell ⟨g,3,J⟩ d
section
variable{w w0:Y}{g:Nat}{T:bM}{a b c d a' b' c' d':ak}
theorem ar0(h:ai w g T #[a,b,c,d]):ai (Sy w g a' b' c' d') g T #[a',b',c',d']:=by have:=(((h.bL 0 a').bL 1 b').bL 2 c').bL 3 d';simpa using this
theorem ah0(k:Nat)(hk:k≠g):(Sy w g a b c d).heap[k]?=w.heap[k]?:=by unfold Sy;rw[jm _ ⟨g,3,J⟩ d k hk,jm _ ⟨g,2,J⟩ c k hk,jm _ ⟨g,1,J⟩ b k hk,jm _ ⟨g,0,J⟩ a k hk]
theorem ar1:(Sy w g a b c d).heap.size=w.heap.size:=by simp[Sy]
theorem ar2(h:But gp w0 w)(hg:w0.heap.size<=g):But gp w0 (Sy w g a b c d):=(((h.qG (p:=⟨g,0,J⟩) hg a).qG (p:=⟨g,1,J⟩) hg b).qG (p:=⟨g,2,J⟩) hg c).qG (p:=⟨g,3,J⟩) hg d
end
theorem ar3{cs:Array ak}(h:ai w q 121 cs)(hs:cs.size=4)(h0:tmps.getD 2 undef=aQ (N ⟨q,0,J⟩)):(results f74 tmps).run aa w= .ok (aD cs) w:=results_cell_row results74 tmps w q 121 cs (0,0) _ h0 h underlying121 rfl Fa
theorem ar4:(aa.info? 130).map (λi=>(i.zero,i.size,i.bytes))=N (N (aD #[C D 0,C D 0,au ⟨#[]⟩,C D 0,C D 0,C D 0,C D 0,au ⟨#[]⟩,O J 0 0]),9,104):=by kernel_rfl
section
variable{w:Y}{g B:Nat}{Al:Option aK}{nl cl:Nat}{ts:List Tok}{e:Int}{k:Nat}
def ah1(n:Nat)(w:Y)(g B:Nat)(Al:Option aK)(nl cl:Nat)(ts:List Tok)(e:Int)(k:Nat)(e':Ending)(w':Y):Prop:=
 ∃(r:di) (A:Option aK) (na ca k':Nat) (b':Bool),e'=aI (aD #[au ⟨r.name.toArray⟩,ax r.pair,O A na ca,C D r.az])/\
  zt w' (λq=>w.heap.size<=q/\q<w'.heap.size) r.stmts A na ca/\Ps w' g B Al nl cl ts e k' b'/\But g w w'/\BN n ts k r k' b'
theorem ah2(h:R:=by
  have VS:=G (xJ HS.E.ps kU aL);rw[Lh] at VS;simp only[] at VS;simp only[kU] at VS;have NK:=G (bI VU (bI hq8 VV));clear Lh VU hq8 VV;go_wp2_with fail;refine VS.E.mono ?_;rintro e' wt1 ⟨rfl,hp,hb⟩;have HO:=G (bI (Pn HO.E.1 hb Ru) (HO.E.2.keep (S':=λq=>w.heap.size+2<=q/\q<wt1.heap.size) (λq hq=>hb.block q hq.2 UK) (λq hq=>⟨hq.1,yA hq.2 hb.size⟩)));have HS:=G (HS.E.call hp hb);clear hp hb VS;have HM:=G (Zx HS.E.ps);rw[NK.E.1] at HM;simp only[] at HM;go_wp2_with fail;refine HM.E.mono ?_;rintro e' Ig ⟨rfl,hp,hb⟩;have HO:=G (bI (Pn HO.E.1 hb Ru) (HO.E.2.keep (S':=λq=>w.heap.size+2<=q/\q<Ig.heap.size) (λq hq=>hb.block q hq.2 UK) (λq hq=>⟨hq.1,yA hq.2 hb.size⟩)));have HS:=G (HS.E.call hp hb);clear hp hb HM;obtain⟨x0,x1,x2,x3⟩:=HS.E.cells;have tT:=HS.E.box.frozen;have HO:=G (bI (mO HO.E.1 (a:=⟨w.heap.size+1,3,J⟩) (by intro e;have:=lJ HO.E.1 _ e;simp only[] at this;omega) (C D NL)) (HO.E.2.keep (w':=Ig.setCell ⟨w.heap.size+1,3,J⟩ (C D NL)) (S':=λq=>w.heap.size+2<=q/\q<Ig.heap.size) (λq hq=>jm _ _ _ q afG) (λq hq=>hq)));have HS:=G (HS.E.ZA NL);go_upto_region 13 with fail;clear x0 x1 x2 x3 tT;have ah3:af ((Ig.setCell ⟨w.heap.size+1,3,J⟩ (C D NL)).heap.size=Ig.heap.size):=by show _=_;simp
  generalize Ig.setCell _ _=wt3 at*;have HN:=G (arZ HS.E.ps [59] [125] aG aG);rw[NK.E.2.1,NK.E.2.2] at HN;simp only[] at HN;go_wp2_with fail;refine HN.E.mono ?_;rintro e' wt4 ⟨rfl,hp,hb⟩;have HO:=G (bI (Pn HO.E.1 hb Ru) (HO.E.2.keep (S':=λq=>w.heap.size<=q/\q<wt4.heap.size/\q≠w.heap.size) (λq hq=>hb.block q (by rw[ah3.E];exact hq.2) UK) (λq hq=>⟨qO,by have:=hb.size;have:=hq.2;have:=ah3.E;omega,qO⟩)));have HS:=G (HS.E.call hp hb);clear hp hb HN;obtain⟨A,ca,rfl,fP⟩:=arH HO.E.1 HO.E.2 (λq h1 h2=>⟨I,h2,I⟩);have gP:=G fP;clear fP;obtain⟨x0,x1,x2,x3⟩:=HS.E.cells;obtain⟨y0,y1,y2,y3⟩:=HS.E.arX;have iB:=HS.E.res.frozen;go_wp2_with fail;refine eX (ar3 (ar0 (by exact HS.E.res)) rfl rfl) rfl ⟨⟨nm,pr,l.map (·.1),NL⟩,A,l.length,ca,k9,b9,rfl,?_,HS.E.ps.heap (λq hq=>ah0 q Ru),ar2 HS.E.bt (aC _),wI.E⟩;exact gP.E.keep (λq hq=>ah0 q hq.2.2) (λq hq=>⟨hq.1,by rw[ar1];exact hq.2.1⟩)):R:=h
theorem acH(h:R:=by
  have hkeep:∀x v,eU w2 (λq=>w.heap.size+2<=q/\q<w2.heap.size) x v->eU w3 (λq=>w.heap.size+2<=q/\q<w3.heap.size) x v:=λx v h=>((h.keep (w':=w2.alloc (ag #[C D s.kind,C D s.dM,au ⟨s.name.toArray⟩,C D kd,C D vl,C D fr,C D gQ,au ⟨fQ.toArray⟩,O A2 n2 c2] 130)) (S':=λq=>w.heap.size+2<=q/\q<w2.heap.size) (λq hq=>nK _ _ q hq.2) (λq hq=>hq)).grown DL (λq cs hq=>iQ nk.E hq aL) (λq hq=>by simp only[aW];have:=hq.2;omega)).keep (λq hq=>rfl) (λq hq=>⟨hq.1,uu⟩);intro p hp;rcases pW.1 hp with hp|hp;·exact⟨(iW.E.2 p hp).1,hkeep _ _ (iW.E.2 p hp).2⟩
  ·rw[lF] at hp;subst hp;exact⟨⟨_,_,_,rfl⟩,hkeep _ _ (o8.keep (λq hq=>rfl) (λq hq=>⟨by have h0:=hq.1;have:=HS.E.sz;have:w6.heap.size<=q:=h0;omega,hq.2⟩))⟩):R:=h
theorem acI(h:R:=by
  clear hK K;refine gI ?_;have kW:=G (bI fH tQ);clear fH aJ tQ o8 hs l0 l1 l2 l3 D7;go_wp2_with fail;obtain⟨fH,tQ⟩:=kW.E;have hrl2:=BI.E s k2 b2 tQ (O A2 n2 c2);have JI:b2=X->k'<k2:=λq=>(tQ.2.1 q).1;have ZF:=fH.hk;go_roundg (if b2 then 0 else nl-k2+1);case measure=>(cases b2<;>simp<;>first|omega|(have:=JI rfl;omega))
  case rel=>
   refine⟨l++ [(s,O A2 n2 c2)],O A3 (l.length+1) n3,k2,b2,rJ.E.set2 _,?_,?_,rfl,hrl2⟩;·exact mO xM.E.1 (a:=⟨w.heap.size+1,2,J⟩) (by intro e;have:=lJ xM.E.1 _ e;simp only[] at this;omega) _
   ·exact xM.E.2.keep (λq hq=>jm _ _ _ q afG) (λq hq=>⟨hq.1,by simpa using hq.2⟩)):R:=h
theorem acJ(h:R:=by rw[eB,mf,arF];unfold PL;rw[hs];exact El):R:=h
theorem ah4(h:R:=by
  have Sz:=G (xJ HS.E.ps [123] aG);rw[HQ.E.2.2.2.2.2] at Sz;simp only[] at Sz;skip;go_wp2_with fail;refine Sz.E.mono ?_;rintro e' w6 ⟨rfl,hp,hb⟩;have HS:=G (HS.E.call hp hb);clear hp hb Sz;go_wp2_with fail;go_loopg [] (if b5 then 0 else nl-k5+1) (λgk wr=>∃(l:List (cZ × ak)) (v:ak) (k':Nat) (b':Bool),oD w g B Al nl cl ts e k' b' nm pr v 0 wr/\wr.ownsRow (w.heap.size+2) 130 9 v l.length (Gc l)/\Io wr (λq=>w.heap.size+2<=q/\q<wr.heap.size) l/\gk=(if b' then 0 else nl-k'+1)/\Ej n ts k5 b5 (l.map (·.1)) k' b');case atStart=>exact⟨[],O J 0 0,k5,b5,HS.E,ng _ _ _ _,λp hp=>(by cases hp),rfl,Ej.start n ts k5 b5⟩
  case round=>
   clear HS HQ;obtain⟨l,v,k',b',hS,aV,htr,rfl,hrl⟩:=hrel;obtain⟨wo,rfl⟩:=dz wr;have HS:=G hS;have HO:=G (bI aV htr);have AP:=G hrl;have dA:=hS.ps.hk;obtain⟨c0,c1,c2,c3⟩:=hS.ps.cells;have hsl:l.length<=nl+1:=by rw[<-gH.E];exact hrl.len YW
   clear hS aV htr hrl;cases b';case true=>
    cases Lh:dP ts kU (k',Z) with
    |mk k6 b6=>
    cases VU:kL ts 1 99999 k6 b6 with
    |mk NL q7=>
    obtain⟨k7,b7⟩:=q7;cases hq8:dP ts [59] (k7,b7) with
    |mk k8 b8=>
    cases VV:dP ts [125] (k8,b8) with
    |mk k9 b9=>
    have wI:af (BN n ts k ⟨nm,pr,l.map (·.1),NL⟩ k9 b9):=AP.E.acm VW.E Lh VU hq8 VV;exact ah2
   case false=>
    have kF:=G (Hu HS.E.ps);go_wp2_with fail;refine kF.E.mono ?_;rintro e' w6 ⟨rfl,hb⟩;have HO:=G (bI (own_below HO.E.1 hb) (HO.E.2.keep (S':=λq=>w.heap.size+2<=q/\q<w6.heap.size) (λq hq=>hb.block q hq.2) (λq hq=>⟨hq.1,yA hq.2 hb.size⟩)));have HS:=G (HS.E.below hb);clear hb kF c0 c1 c2 c3;cases qx:(pk ts k' X==kU);case true=>
     have aY:=qx;simp only[kU] at aY;cases Lh:dP ts kU (k',X) with
     |mk k6 b6=>
     cases VU:kL ts 1 99999 k6 b6 with
     |mk NL q7=>
     obtain⟨k7,b7⟩:=q7;cases hq8:dP ts [59] (k7,b7) with
     |mk k8 b8=>
     cases VV:dP ts [125] (k8,b8) with
     |mk k9 b9=>
     have wI:af (BN n ts k ⟨nm,pr,l.map (·.1),NL⟩ k9 b9):=AP.E.arY VW.E YW qx (VQ.of Lh VU hq8 VV);clear qx;exact ah2
    case false=>
     have aY:=qx;simp only[kU] at aY;have BI:=G (λs k2 b2 hs v=>AP.E.step (s:=s) (k2:=k2) (b2:=b2) YW qx hs v);clear qx;go_upto_region 10 with fail;have VX:=G (HS.E.below (qH (aN _ _)));refine iA (S:=λW=>w6.heap.size<=W.heap.size) dh (aC _) (λbg=>?_);refine aA 0 ?_;refine aA 2 ?_;refine wpAnyH_ready (rs:= [1,3]) dh aG ?_;refine Hg rfl (λK hK=>?_) (Hg rfl (λK hK=>?_) RL)
     ·obtain⟨l0,l1,l2,l3⟩:=VX.E.cells;go_simp;refine bF hK (by exact bg) (λaCM=>?_);clear hK K l0 l1 l2 l3;refine bK 3 (λK hK=>?_);go_simp;refine(ag6 VX.E.ps n I).mono ?_;rintro e' w2 ⟨s,kd,vl,fr,gQ,fQ,A2,n2,c2,k2,b2,hs,rfl,o8,fH,aJ,tQ⟩;dsimp only
      have fw:w6.heap.size<=w2.heap.size:=aJ.size;refine bF hK (by exact fw) (λaCN=>?_);clear hK K;have mV:=G (VX.E.call fH aJ);have iW:=G (bI (Pn HO.E.1.drew aJ Ru) (HO.E.2.keep (w':=w2) (S':=λq=>w.heap.size+2<=q/\q<w2.heap.size) (λq hq=>aJ.block q hq.2 UK) (λq hq=>⟨hq.1,yA hq.2 fw⟩)));refine bK 4 (λK hK=>?_);go_simp;have rM:=G (mV.E.below ((aN _ _).alloc (aC _) (ag #[C D s.kind,C D s.dM,au ⟨s.name.toArray⟩,C D kd,C D vl,C D fr,C D gQ,au ⟨fQ.toArray⟩,O A2 n2 c2] 130)));have nk:=G (iW.E.1.alloc (ag #[C D s.kind,C D s.dM,au ⟨s.name.toArray⟩,C D kd,C D vl,C D fr,C D gQ,au ⟨fQ.toArray⟩,O A2 n2 c2] 130));refine bF hK YE (λaCO=>?_);clear hK K;refine bK 5 (λK hK=>?_);refine Y8 _ rfl (.tmp 33) (.tmp 36) _ rfl (w.heap.size+2) 130 i0 _ 9 104 underlying119 gz fu gq fG rfl I _ l.length (Gc l) Jw nk.E (w2.heap.size+1) (N ⟨w2.heap.size,0,J⟩) 1 1 [C D s.kind,C D s.dM,au ⟨s.name.toArray⟩,C D kd,C D vl,C D fr,C D gQ,au ⟨fQ.toArray⟩,O A2 n2 c2] Jw (mX w2 #[C D s.kind,C D s.dM,au ⟨s.name.toArray⟩,C D kd,C D vl,C D fr,C D gQ,au ⟨fQ.toArray⟩,O A2 n2 c2] 130 9 rfl) rZ lH I Rk ?_;intro v3 w3 El DL VY;obtain⟨A3,n3,rfl⟩:=eO El;have NN:aj (w.heap.size+2) (w2.alloc (ag #[C D s.kind,C D s.dM,au ⟨s.name.toArray⟩,C D kd,C D vl,C D fr,C D gQ,au ⟨fQ.toArray⟩,O A2 n2 c2] 130)) w3:=tu nk.E DL Rk;have rJ:=G (rM.E.low NN);have fM:w2.heap.size+1<=w3.heap.size:=abt;have NP:w3.ownsRow (w.heap.size+2) 130 9 (O A3 (l.length+1) n3) (l++ [(s,O A2 n2 c2)]).length (Gc (l++ [(s,O A2 n2 c2)])):=by exact acJ
      have NQ:Io w3 (λq=>w.heap.size+2<=q/\q<w3.heap.size) (l++ [(s,O A2 n2 c2)]):=by exact acH
      have xM:=G (bI NP NQ);clear El DL VY NN NP NQ;refine bF hK abz (λaCP=>?_);clear hK K;refine aA 6 ?_;refine bK 7 (λK hK=>?_);obtain⟨l0,l1,l2,l3⟩:=rJ.E.cells;have D7:=rJ.E.box.frozen;go_simp;refine bF hK abr (λaCQ=>?_);exact acI
     ·go_simp;refine(ag6 VX.E.ps n I).mono ?_;rintro e' w2 ⟨s,kd,vl,fr,gQ,fQ,A2,n2,c2,k2,b2,hs,rfl,o8,fH,aJ,tQ⟩;dsimp only
      have fw:w6.heap.size<=w2.heap.size:=aJ.size;refine bF hK (by exact fw) (λaCR=>?_);clear hK K;have mV:=G (VX.E.call fH aJ);have iW:=G (bI (Pn HO.E.1.drew aJ Ru) (HO.E.2.keep (w':=w2) (S':=λq=>w.heap.size+2<=q/\q<w2.heap.size) (λq hq=>aJ.block q hq.2 UK) (λq hq=>⟨hq.1,yA hq.2 fw⟩)));refine wpAnyH_ready (rs:= [1,4]) dh aG ?_;refine Hg rfl (λK hK=>?_) (Hg rfl (λK hK=>?_) RL)
      ·obtain⟨l0,l1,l2,l3⟩:=mV.E.cells;go_simp;refine bF hK (by exact fw) (λaCS=>?_);clear hK K l0 l1 l2 l3;refine bK 4 (λK hK=>?_);go_simp;have rM:=G (mV.E.below ((aN _ _).alloc (aC _) (ag #[C D s.kind,C D s.dM,au ⟨s.name.toArray⟩,C D kd,C D vl,C D fr,C D gQ,au ⟨fQ.toArray⟩,O A2 n2 c2] 130)));have nk:=G (iW.E.1.alloc (ag #[C D s.kind,C D s.dM,au ⟨s.name.toArray⟩,C D kd,C D vl,C D fr,C D gQ,au ⟨fQ.toArray⟩,O A2 n2 c2] 130));refine bF hK YE (λaCT=>?_);clear hK K;refine bK 5 (λK hK=>?_);refine Y8 _ rfl (.tmp 33) (.tmp 36) _ rfl (w.heap.size+2) 130 i0 _ 9 104 underlying119 gz fu gq fG rfl I _ l.length (Gc l) Jw nk.E (w2.heap.size+1) (N ⟨w2.heap.size,0,J⟩) 1 1 [C D s.kind,C D s.dM,au ⟨s.name.toArray⟩,C D kd,C D vl,C D fr,C D gQ,au ⟨fQ.toArray⟩,O A2 n2 c2] Jw (mX w2 #[C D s.kind,C D s.dM,au ⟨s.name.toArray⟩,C D kd,C D vl,C D fr,C D gQ,au ⟨fQ.toArray⟩,O A2 n2 c2] 130 9 rfl) rZ lH I Rk ?_;intro v3 w3 El DL VY;obtain⟨A3,n3,rfl⟩:=eO El;have NN:aj (w.heap.size+2) (w2.alloc (ag #[C D s.kind,C D s.dM,au ⟨s.name.toArray⟩,C D kd,C D vl,C D fr,C D gQ,au ⟨fQ.toArray⟩,O A2 n2 c2] 130)) w3:=tu nk.E DL Rk;have rJ:=G (rM.E.low NN);have fM:w2.heap.size+1<=w3.heap.size:=abt;have NP:w3.ownsRow (w.heap.size+2) 130 9 (O A3 (l.length+1) n3) (l++ [(s,O A2 n2 c2)]).length (Gc (l++ [(s,O A2 n2 c2)])):=by exact acJ
       have NQ:Io w3 (λq=>w.heap.size+2<=q/\q<w3.heap.size) (l++ [(s,O A2 n2 c2)]):=by exact acH
       have xM:=G (bI NP NQ);clear El DL VY NN NP NQ;refine bF hK abz (λaCU=>?_);clear hK K;refine aA 6 ?_;refine bK 7 (λK hK=>?_);obtain⟨l0,l1,l2,l3⟩:=rJ.E.cells;have D7:=rJ.E.box.frozen;go_simp;refine bF hK abr (λaCV=>?_);exact acI
      ·go_simp;have rM:=G (mV.E.below ((aN _ _).alloc (aC _) (ag #[C D s.kind,C D s.dM,au ⟨s.name.toArray⟩,C D kd,C D vl,C D fr,C D gQ,au ⟨fQ.toArray⟩,O A2 n2 c2] 130)));have nk:=G (iW.E.1.alloc (ag #[C D s.kind,C D s.dM,au ⟨s.name.toArray⟩,C D kd,C D vl,C D fr,C D gQ,au ⟨fQ.toArray⟩,O A2 n2 c2] 130));refine bF hK YE (λaCW=>?_);clear hK K;refine bK 1 (λK hK=>?_);obtain⟨l0,l1,l2,l3⟩:=rM.E.cells;go_simp;refine bF hK YE (λaCX=>?_);clear hK K l0 l1 l2 l3;refine bK 5 (λK hK=>?_);refine Y8 _ rfl (.tmp 33) (.tmp 36) _ rfl (w.heap.size+2) 130 i0 _ 9 104 underlying119 gz fu gq fG rfl I _ l.length (Gc l) Jw nk.E (w2.heap.size+1) (N ⟨w2.heap.size,0,J⟩) 1 1 [C D s.kind,C D s.dM,au ⟨s.name.toArray⟩,C D kd,C D vl,C D fr,C D gQ,au ⟨fQ.toArray⟩,O A2 n2 c2] Jw (mX w2 #[C D s.kind,C D s.dM,au ⟨s.name.toArray⟩,C D kd,C D vl,C D fr,C D gQ,au ⟨fQ.toArray⟩,O A2 n2 c2] 130 9 rfl) rZ lH I Rk ?_;intro v3 w3 El DL VY;obtain⟨A3,n3,rfl⟩:=eO El;have NN:aj (w.heap.size+2) (w2.alloc (ag #[C D s.kind,C D s.dM,au ⟨s.name.toArray⟩,C D kd,C D vl,C D fr,C D gQ,au ⟨fQ.toArray⟩,O A2 n2 c2] 130)) w3:=tu nk.E DL Rk;have rJ:=G (rM.E.low NN);have fM:w2.heap.size+1<=w3.heap.size:=abt;have NP:w3.ownsRow (w.heap.size+2) 130 9 (O A3 (l.length+1) n3) (l++ [(s,O A2 n2 c2)]).length (Gc (l++ [(s,O A2 n2 c2)])):=by exact acJ
       have NQ:Io w3 (λq=>w.heap.size+2<=q/\q<w3.heap.size) (l++ [(s,O A2 n2 c2)]):=by exact acH
       have xM:=G (bI NP NQ);clear El DL VY NN NP NQ;refine bF hK abz (λaCY=>?_);clear hK K;refine aA 6 ?_;refine bK 7 (λK hK=>?_);obtain⟨l0,l1,l2,l3⟩:=rJ.E.cells;have D7:=rJ.E.box.frozen;go_simp;refine bF hK abr (λaCZ=>?_);exact acI):R:=h
theorem ah5(h:Ps w g B Al nl cl ts e k X)(n:Nat)(hF:20*nl+40<=n)
  (sM:dP ts uG (k,X)=(k1,b1)) (iL:sJ ts k1 b1=(nm,k2,b2)) (pg:dP ts tF (k2,b2)=(k3,b3)) (yH:hd4 ts (k3,b3)=(k4,b4)) (NR:dP ts [123] (k4,b4)=(k5,b5)):
  aF aa 74 #[aQ (N ⟨g,0,J⟩)] w (ah1 n w g B Al nl cl ts e k):=by
 cases ZV:(pk ts k3 b3==qb);all_goals
  obtain⟨i0,gz,fu,gq,fG⟩:=info_parts ar4;have yx:=h.hn;have su:af (∀t∈ts,t.text≠ []):=λt ht=>(h.ok t ht).1;have gH:=G h.len;have VW:=G (NI.of su.E sM iL pg yH NR);rw[ZV] at VW;have HS:af (oD w g B Al nl cl ts e k X [] X (O J 0 0) 0 ((w.alloc (ag #[au ⟨#[]⟩,ax X,O J 0 0,C D 0] 121)).alloc (ag #[au ⟨#[]⟩,ax X,O J 0 0,C D 0] 121))):=by have hb:=((aN w.heap.size w).alloc (aC _) (ag #[au ⟨#[]⟩,ax X,O J 0 0,C D 0] 121)).alloc aG (ag #[au ⟨#[]⟩,ax X,O J 0 0,C D 0] 121);refine⟨h.go hb,But.of hb,(ai.new w 121 #[au ⟨#[]⟩,ax X,O J 0 0,C D 0]).alloc _,?_,aG,h.lt⟩;have:=ai.new (w.alloc (ag #[au ⟨#[]⟩,ax X,O J 0 0,C D 0] 121)) 121 #[au ⟨#[]⟩,ax X,O J 0 0,C D 0];rw[aW] at this;exact this
  have HQ:=G (bI sM (bI iL (bI pg (bI ZV (bI yH NR)))));clear h sM iL pg ZV yH NR;go_enter func74,ntmps74;go_upto_region 2 with fail;generalize(w.alloc _).alloc _=wz at*;have Li:=G (xJ HS.E.ps uG aL);rw[HQ.E.1] at Li;simp only[] at Li;simp only[uG] at Li;go_wp2_with fail;refine Li.E.mono ?_;rintro e' w1 ⟨rfl,hp,hb⟩;have HS:=G (HS.E.call hp hb);clear hp hb Li;have HM:=G (ace HS.E.ps);rw[HQ.E.2.1] at HM;simp only[] at HM;go_wp2_with fail;refine HM.E.mono ?_;rintro e' w2 ⟨rfl,hp,hb⟩;have HS:=G (HS.E.call hp hb);obtain⟨x0,x1,x2,x3⟩:=HS.E.cells;have tT:=HS.E.box.frozen;have HS:=G (HS.E.set0 nm);clear hp hb HM;go_upto_region 4 with fail;clear x0 x1 x2 x3 tT;generalize w2.setCell _ _=wz2 at*;have VZ:=G (xJ HS.E.ps tF aL);rw[HQ.E.2.2.1] at VZ;simp only[] at VZ;simp only[tF] at VZ;go_wp2_with fail;refine VZ.E.mono ?_;rintro e' w3 ⟨rfl,hp,hb⟩;have HS:=G (HS.E.call hp hb);clear hp hb VZ;have HT:=G (Nk HS.E.ps qb aL);rw[HQ.E.2.2.2.1] at HT
 ·simp only[lK,if_false] at HT;simp only[qb] at HT;go_wp2_with fail;refine HT.E.mono ?_;rintro e' w4 ⟨rfl,hp,hb⟩;have HS:=G (HS.E.call hp hb);clear hp hb HT;have h4:=HQ.E.2.2.2.2.1;unfold hd4 at h4;rw[HQ.E.2.2.2.1] at h4;simp only[lK,if_false] at h4;have V7:=G (xJ HS.E.ps sF aL);rw[h4] at V7;simp only[] at V7;simp only[sF] at V7;go_wp2_with fail;refine V7.E.mono ?_;rintro e' wz3 ⟨rfl,hp,hb⟩;have HS:=G (HS.E.call hp hb);clear hp hb V7 h4;generalize X=pr at HS VW;exact ah4
 simp only[if_true] at HT;simp only[qb] at HT;go_wp2_with fail;refine HT.E.mono ?_;rintro e' w4 ⟨rfl,hp,hb⟩;have HS:=G (HS.E.call hp hb);clear hp hb HT;have h4:=HQ.E.2.2.2.2.1;unfold hd4 at h4;rw[HQ.E.2.2.2.1] at h4;simp only[if_true,xL] at h4;obtain⟨rfl,rfl⟩:=h4;obtain⟨x0,x1,x2,x3⟩:=HS.E.cells;have tT:=HS.E.box.frozen;have HS:=G (HS.E.set1 Z);go_upto_region 8 with fail;clear x0 x1 x2 x3 tT;generalize w4.setCell _ _=wz3 at*;generalize Z=pr at HS VW;exact ah4
theorem ar5(h:Ps w g B Al nl cl ts e k X)(n:Nat)(hF:20*nl+40<=n):aF aa 74 #[aQ (N ⟨g,0,J⟩)] w (ah1 n w g B Al nl cl ts e k):=by
 cases sM:dP ts uG (k,X) with
 |mk k1 b1=>
 cases iL:sJ ts k1 b1 with
 |mk nm q2=>
 obtain⟨k2,b2⟩:=q2;cases pg:dP ts tF (k2,b2) with
 |mk k3 b3=>
 cases yH:hd4 ts (k3,b3) with
 |mk k4 b4=>
 cases NR:dP ts [123] (k4,b4) with
 |mk k5 b5=>
 cases ZV:(pk ts k3 b3==qb);·exact ah5 h n hF sM iL pg yH NR
 exact ah5 h n hF sM iL pg yH NR
end
theorem ar6:(aa.info? 121).map (λi=>(i.zero,i.size,i.bytes))=N (N (aD #[au ⟨#[]⟩,X,O J 0 0,C D 0]),4,56):=by kernel_rfl
theorem But.ar7{a b c:Y}(h:But g a b)(hb:aj a b c):But g a c:=⟨hb.os.trans h.os,hb.tape.trans h.tape,hb.output.trans h.output,ja h.size hb.size,λi hi hn=>(hb.block i hi).trans (h.block i hi hn)⟩
theorem ar8{size:Nat}{e:bM}(h:w.ownsRow base e size v n xs)(k:Nat):(w.drewN k).ownsRow base e size v n xs:=h
section
variable{w:Y}{g B:Nat}{Al:Option aK}{nl cl:Nat}{ts:List Tok}{e:Int}{k:Nat}{b:Bool}
def ar9(n:Nat)(w:Y)(g B:Nat)(Al:Option aK)(nl cl:Nat)(ts:List Tok)(e:Int)(e':Ending)(w':Y):Prop:=
 ∃(p:List di) (A:Option aK) (c k':Nat) (b':Bool),e'=aI (O A p.length c)/\tZ w' (λq=>w.heap.size<=q/\q<w'.heap.size) p A p.length c/\Ps w' g B Al nl cl ts e k' b'/\But g w w'/\
  ∀m j,ts.length+1<=m->ts.length+1<=j->tJ n m j (aZ ts)=if b' then J else N p
theorem ah6(h:R:=by have asa:tZ (wo.drewN nq) (λq=>w.heap.size<=q/\q<wo.heap.size) (l.map (·.1)) Ao l.length co:=V8.keep (λq hq=>rfl) (λq hq=>hq);simpa using asa):R:=h
theorem asb(h:Ps w g B Al nl cl ts e 0 X)(n:Nat)(hF:20*nl+40<=n):aF aa 28 #[aQ (N ⟨g,0,J⟩)] w (ar9 n w g B Al nl cl ts e):=by
 obtain⟨i0,gz,fu,gq,fG⟩:=info_parts ar6;have yx:=h.hn;have gH:=G h.len;have aO:=h.lt;have HP:=G h;clear h;go_enter func28,ntmps28;go_wp2_with fail;go_loopg [3] (nl+1) (λgk out wr=>∃(l:List (di × ak)) (k':Nat) (b':Bool),Ps wr g B Al nl cl ts e k' b'/\But g w wr/\wr.ownsRow w.heap.size 121 4 out l.length (PU l)/\Sv wr (λq=>w.heap.size<=q/\q<wr.heap.size/\out.ownBlock≠N q) l/\Lf n ts (l.map (·.1)) k' b'/\l.length<=nl+1/\(b'=X->l.length<=k')/\gk=(if b' then 0 else nl-k'+1));case atStart=>exact⟨[],0,X,HP.E,But.refl _ _,ng _ _ _ _,λp hp=>(by cases hp),Lf.start n ts,aG,λ_=>by simp,aG⟩
 clear HP;obtain⟨l,k',b',hp,hb,aV,kr,nC,BO,hlk,rfl⟩:=hrel;obtain⟨wo,rfl⟩:=dz wr;have yB:=G hp;have HB:=G hb;have HO:=G (bI aV (bI kr nC));have dA:=hp.hk;have SA:=G hlk;obtain⟨c0,c1,c2,c3⟩:=hp.cells;obtain⟨Ao,co,rfl⟩:=eO aV;clear hp hb aV kr nC hlk;cases b';case true=>
  go_upto_region 2 with fail;go_quiet(fail);go_wp2_with fail;go_ret;obtain⟨aV,kr,nC⟩:=HO.E;obtain⟨A,c,e1,V8⟩:=ahU (S:=λq=>w.heap.size<=q/\q<wo.heap.size) aV (kr.keep (λq _=>rfl) (λq hq=>⟨hq.1,hq.2.1⟩)) (λq h1 h2=>⟨h1,h2⟩);injection e1 with e1 e2 e3;subst e1 e3;refine⟨l.map (·.1),Ao,co,k',Z,aG,?g1,yB.E.drewN nq,HB.E.tr (But.of (below_drewN (aN _ _) nq)),?g2⟩;case g2=>intro m j hm hj;rw[if_pos rfl];exact nC.2 rfl m j hm hj
  exact ah6
 by_cases vC:k'<nl;case neg=>
  go_upto_region 2 with fail;go_quiet(fail);go_wp2_with fail;go_ret;obtain⟨aV,kr,nC⟩:=HO.E;obtain⟨A,c,e1,V8⟩:=ahU (S:=λq=>w.heap.size<=q/\q<wo.heap.size) aV (kr.keep (λq _=>rfl) (λq hq=>⟨hq.1,hq.2.1⟩)) (λq h1 h2=>⟨h1,h2⟩);injection e1 with e1 e2 e3;subst e1 e3;refine⟨l.map (·.1),Ao,co,k',X,aG,?g3,yB.E.drewN nq,HB.E.tr (But.of (below_drewN (aN _ _) nq)),?g4⟩;case g4=>intro m j hm hj;rw[if_neg aG];exact nC.done (by rw[gH.E];omega) YW m j hm hj
  exact ah6
 go_upto_region 2 with fail;go_quiet(fail);go_wp2_with fail;refine(ar5 (yB.E.drewN nq) n hF).mono ?_;rintro e' w2 ⟨r,A,na,ca,k2,b2,rfl,fP,fH,aJ,uJ⟩;have fw:wo.heap.size<=w2.heap.size:=aJ.size;have lY:=HB.E.size;obtain⟨aV,kr,nC⟩:=HO.E;have En:=SA.E aG;have agY:=G (nC.step (by rw[gH.E];exact vC) uJ);have kW:=G uJ;have iW:=G (Pn (ar8 aV nq) aJ aO);have SB:af (Sv w2 (λq=>w.heap.size<=q/\q<wo.heap.size/\(O Ao l.length co).ownBlock≠N q) l):=kr.keep (λq hq=>aJ.block q hq.2.1 zU) (λq hq=>hq);have gP:=G fP;have sI:=G fH;have aS:af (But g w w2):=(HB.E.tr (But.of (below_drewN (aN _ _) nq))).tr aJ;clear fP fH aJ uJ aV kr nC c0 c1 c2 c3;go_wp2_with(at_builtin;refine pX _ rfl (.tmp 21) (.tmp 24) _ rfl w.heap.size 121 i0 _ 4 56 underlying54 gz fu gq fG rfl I _ l.length (PU l) rfl (iW.E.alloc _) (w2.heap.size+1) (N ⟨w2.heap.size,0,J⟩) 1 1 [au ⟨r.name.toArray⟩,ax r.pair,O A na ca,C D r.az] rfl (mX w2 #[au ⟨r.name.toArray⟩,ax r.pair,O A na ca,C D r.az] 121 4 rfl) rZ lH I bB ?_;intro v6 w6 dw bU iT;have oL:=G (bI dw (bI bU iT));clear dw bU iT);obtain⟨dw,bU,iT⟩:=oL.E;have aC0:w2.heap.size+1<=w6.heap.size:=by have:=bU.size;simp only[aW] at this;omega
 have hlow:aj w.heap.size (w2.alloc (ag #[au ⟨r.name.toArray⟩,ax r.pair,O A na ca,C D r.az] 121)) w6:=tu (iW.E.alloc _) bU bB;have qW:∀q,w.heap.size<=q->q<w2.heap.size->(O Ao l.length co).ownBlock≠N q->w6.heap[q]?=w2.heap[q]?:=λq h1 h2 h3=>(bU.block q bB (λe=>h3 e.symm)).trans (nK _ _ q h2);have hnb:∀q,q<w2.heap.size->(O Ao l.length co).ownBlock≠N q->v6.ownBlock≠N q:=λq h2 h3 e=>by
  rcases iT with e1|e1;·exact h3 (e1▸e)
  rw[e1,aW] at e;injection e;omega
 have JI:b2=X->k'<k2:=λq=>(kW.E.2.1 q).1;have ZF:=sI.E.hk;go_roundg (if b2 then 0 else nl-k2+1);case measure=>(cases b2<;>simp<;>first|omega|(have:=JI rfl;omega))
 refine⟨l++ [(r,O A na ca)],k2,b2,?_,?_,?_,?_,?_,?_,?_,rfl⟩;·exact sI.E.heap (λq hq=>(hlow.block q I).trans (nK _ _ q I))
 ·exact(aS.E.alloc _).ar7 hlow
 ·rw[eB,mf,arI];exact dw
 ·intro p hp;rcases pW.1 hp with hp|hp;·obtain⟨A1,n1,c1,e1,h1⟩:=SB.E p hp;exact⟨A1,n1,c1,e1,h1.keep (λq hq=>qW q hq.1 I hq.2.2) (λq hq=>⟨hq.1,MQ,hnb q MQ hq.2.2⟩)⟩
  rw[lF] at hp;subst hp;have hx:∀q,wo.heap.size<=q->(O Ao l.length co).ownBlock≠N q:=λq hq e=>by have:=Vd HO.E.1 q e;omega
  exact⟨A,na,ca,rfl,gP.E.keep (λq hq=>qW q (by have h0:wo.heap.size<=q:=hq.1;omega) hq.2 (hx q hq.1)) (λq hq=>⟨by have h0:wo.heap.size<=q:=hq.1;omega,uu,hnb q hq.2 (hx q hq.1)⟩)⟩
 ·rw[oM];exact agY.E
 ·simp only[eB,mf];omega
 intro q;have:=JI q;simp only[eB,mf];omega
end
theorem aDN(h:R:=by go_wp2_with fail;go_ret;exact⟨by show aI (ax X)=_;rw[F.E],bA.trans (aM.mono eP)⟩):R:=h
theorem ah7(h:R:=by clear aB;exact aDN):R:=h
theorem V9(h:R:=by exact aDN):R:=h
theorem Wd(h:R:=by have:p.getD i ay=p[i]:=OX;rw[this];exact rF dA):R:=h
theorem ZW(p:List di)(hp:∀r∈p,zu r)(S:Nat->Prop)(A:Option aK)(na ca:Nat)(w:Y)(hE:Env w)(hA:tZ w S p A na ca)(hS:∀q,S q->q<w.heap.size)(jG:na<=100000):
  aF aa 30 #[O A na ca] w λe w'=>e=aI (jT p)/\aj w w w':=by
 have bH:=hA.1;have gH:=G bH;have HA:=G hA;have HS:=G hS;have HP:=G hp;have HE:=G hE;clear hA hS hp hE bH;go_enter func30,ntmps30;go_wp2_with fail;go_loopw [7] (λiv wr=>∃i:Nat,iv=C D i/\i<=na/\(p.take i).all jK=Z/\aj w w wr) (λiv _=>na-(intOf iv).toNat);case atStart=>exact⟨0,rfl,I,rfl,aN _ _⟩
 obtain⟨i,rfl,hi,hd,aH⟩:=hrel;obtain⟨wo,rfl⟩:=dz wr;have eP:=aH.size;by_cases aO:i<na;case neg=>
  have k3:decide ((i:Int)<(na:Int))=X:=fI;rw[o7 Ju] at hd;have F:af (jT p=decide ((na:Int)<=40)):=by show _=_;unfold jT;rw[hd,Bool.true_and,gH.E,decide_eq_decide];omega
  clear hd;go_wp2_with fail;go_ret;exact⟨ic,aH⟩
 have b3:(i:Int)<(na:Int):=I;have dA:i<p.length:=G9;have kG:=HA.keep (w':=wo) (S':=S) (λq hq=>aH.block q (HS q hq)) (λq hq=>hq);obtain⟨ga,A',n',c',rfl,F5,a0,a1,a2,a3,fP⟩:=kG.2.2 i aO;have dK:p.getD i ay∈p:=by exact Wd
 have HR:=G (HP _ dK);have HN:af (jK (p.getD i ay)=X->jT p=X):=λh=>aqV dA h;have HY:af (jK (p.getD i ay)=Z->(p.take (i+1)).all jK=Z):=λh=>aqW dA hd h;have BP:=G (HE.after aH);have gP:=G fP;have Ip:n'=(p.getD i ay).stmts.length:=fP.1;have sO:n'<=c':=fP.2.1;have bA:=G aH;clear kG dK dA hd fP aH;generalize p.getD i ay=r at*;have vF:=G (λW h=>acw r.name W h HR.1);have qU:=G (ZQ r.az);have HCV:=G (λW hb=>aqY r HR S A' n' c' W (BP.after hb) (gP.keep (λq hq=>hb.block q (by have:=HS q hq;omega)) (λq hq=>hq)) (λq hq=>by have:=HS q hq;have:=hb.size;omega));have dI:af (jK r=(qf r.name&&decide ((n':Int)<=30)&&iw r.az&&r.stmts.all o5)):=by
  show _=_;unfold jK;have:decide (r.stmts.length<=30)=decide ((n':Int)<=30):=by rw[decide_eq_decide,Ip];omega
  rw[this]
 clear Ip;have wG:n'<=100000\/True:=Or.inr trivial;clear wG;generalize qf r.name=q1 at*;generalize iw r.az=q3 at*;generalize r.stmts.all o5=q4 at*;have aT:aj wo wo (wo.alloc (ag #[r.name,r.pair,O A' n' c',r.az] 121)):=(aN _ _).alloc (aC _) _;have dC:=G (ai.new wo 121 #[r.name,r.pair,O A' n' c',r.az]);have aP:=G aT;clear aT;cases q1;case false=>have F:af (jT p=X):=HN (by rw[dI.E];rfl);clear HN HY dI;go_wp2_with fail;refine(vF _ (BP.after aP)).mono ?_;rintro e w1 ⟨rfl,aB⟩;have aM:=G (aP.trans (aB.mono aG));exact ah7
 by_cases acK:n'<=30;case neg=>have F:af (jT p=X):=HN (by rw[dI.E,decide_eq_false (by omega:¬(n':Int)<=30)];rfl);have k4:decide ((n':Int)>30)=Z:=jO;clear HN HY dI;go_wp2_with fail;refine(vF _ (BP.after aP)).mono ?_;rintro e w1 ⟨rfl,aB⟩;have bO:=G (dC.below aB aG);have aM:=G (aP.trans (aB.mono aG));have x2:w1.cell? ⟨wo,2,J⟩=N (O A' n' c'):=bO.cell 2;exact ah7
 have k4:decide ((n':Int)>30)=X:=fI;cases q3;case false=>have F:af (jT p=X):=HN (by rw[dI.E];simp);clear HN HY dI;go_wp2_with fail;refine(vF _ (BP.after aP)).mono ?_;rintro e w1 ⟨rfl,aB⟩;have bO:=G (dC.below aB aG);have aM:=G (aP.trans (aB.mono aG));have x2:w1.cell? ⟨wo,2,J⟩=N (O A' n' c'):=bO.cell 2;have x3:w1.cell? ⟨wo,3,J⟩=N (C D r.az):=bO.cell 3;clear aB;go_wp2_with fail;refine(qU w1).mono ?_;rintro e w1' ⟨rfl,rfl⟩;exact V9
 cases q4;case false=>have F:af (jT p=X):=HN (by rw[dI.E];simp);clear HN HY dI;go_wp2_with fail;refine(vF _ (BP.after aP)).mono ?_;rintro e w1 ⟨rfl,aB⟩;have bO:=G (dC.below aB aG);have aM:=G (aP.trans (aB.mono aG));have ed:wo.heap.size<w1.heap.size:=zT;have x2:w1.cell? ⟨wo,2,J⟩=N (O A' n' c'):=bO.cell 2;have x3:w1.cell? ⟨wo,3,J⟩=N (C D r.az):=bO.cell 3;clear aB;go_wp2_with fail;refine(qU w1).mono ?_;rintro e w1' ⟨rfl,rfl⟩;go_wp2_with fail;refine(HCV w1 aM).mono ?_;rintro e w2 ⟨rfl,aJ⟩;have aM:=G (aM.trans (aJ.mono I));clear aJ;exact V9
 have F:af ((p.take (i+1)).all jK=Z):=HY (by rw[dI.E,decide_eq_true (by omega:(n':Int)<=30)];rfl);clear HN HY dI;go_wp2_with fail;refine(vF _ (BP.after aP)).mono ?_;rintro e w1 ⟨rfl,aB⟩;have bO:=G (dC.below aB aG);have aM:=G (aP.trans (aB.mono aG));have ed:wo.heap.size<w1.heap.size:=zT;have x2:w1.cell? ⟨wo,2,J⟩=N (O A' n' c'):=bO.cell 2;have x3:w1.cell? ⟨wo,3,J⟩=N (C D r.az):=bO.cell 3;clear aB;go_wp2_with fail;refine(qU w1).mono ?_;rintro e w1' ⟨rfl,rfl⟩;go_wp2_with fail;refine(HCV w1 aM).mono ?_;rintro e w2 ⟨rfl,aJ⟩;have aM:=G (aM.trans (aJ.mono I));clear aJ;go_wp2_with fail;refine⟨⟨i+1,bR,I,F,bA.trans (aM.mono eP)⟩,bW⟩
section
variable{w:Y}{g B:Nat}{Al:Option aK}{nl cl:Nat}{ts:List Tok}{e:Int}{k:Nat}{b:Bool}
theorem asc(h:Ps w g B Al nl cl ts e k b):aF aa 29 #[aQ g] w λe' w'=>(∃i:Int,e'=aI i)/\aj w w w':=by
 have dA:=h.hk;have HP:=G h;obtain⟨c0,c1,c2,_⟩:=h.cells;clear h;go_enter func29,ntmps29;by_cases hk:k<nl
 ·have b3:(k:Int)<(nl:Int):=by omega
  obtain⟨ad,mK,_,_,_,d2⟩:=HP.rd.Po hk;subst mK;go_upto_region 1 with fail;go_quiet(fail);go_wp2_with fail;go_quiet(fail);go_wp2_with fail;go_ret;exact⟨⟨_,rfl⟩,below_drewN (below_drewN (aN _ _) _) _⟩
 go_upto_region 1 with fail;go_quiet(fail);go_wp2_with fail;go_ret;exact⟨⟨_,rfl⟩,below_drewN (aN _ _) _⟩
end
def ase(n:Nat)(s:List UInt8)(w:Y)(e:Ending)(w':Y):Prop:=
 aj w w w'/\
 (
   (∃(p:List di) (A:Option aK) (c:Nat),e=aI (bz #[O A p.length c,C D 0,C D 0])/\tZ w' (λq=>w.heap.size<=q/\q<w'.heap.size) p A p.length c/\
    (tk s).bind (tJ n 9000 9000)=N p/\jT p=Z/\(∀r∈p,zu r)/\p.length<=8000)\/
   ∃a x:Int,e=aI (bz #[O J 0 0,a,x])/\x≠0/\(8000<s.length\/∀p,(tk s).bind (tJ n 9000 9000)=N p->jT p=X))
theorem asf{x:Int × Int}(h:qA s= .error x):8000<s.length\/∀(n:Nat) p,(tk s).bind (tJ n 9000 9000)=N p->jT p=X:=by
 unfold qA at h;split at h;·left;assumption
 right;intro n p hp;unfold tk at hp;rw[h] at hp;cases hp
theorem asg(h:qA s= .ok ts):tk s=N (aZ ts):=by
 unfold qA at h;split at h;·cases h
 unfold tk;rw[h];rfl
theorem aC1{a b:Y}(h:But g a b)(hB:B<=g)(hs:B<=a.heap.size):aj B a b:=h.low hB hs
theorem acL(s:List UInt8)(w:Y)(hE:Env w)(hl:s.length<=9000)(n:Nat)(hn:200000<=n):aF aa 8 #[s] w (ase n s w):=by
 have HT:=G (agt s w hE hl);have HE:=G hE;clear hE;go_enter func8,ntmps8;go_wp2_with fail;refine HT.mono ?_;rintro e w1 ⟨v,rfl,aV,aB⟩;clear HT;cases hR:qA s with
 |error x=>
  have hx:=arN hR;have HR:=G (asf hR);have aM:=G aB;clear aV aB hR;simp only[RP,Vf,Na];obtain⟨xa,xe⟩:=x;simp only[] at hx |-;have BH:(xe !=0)=Z:=by rw[bne_iff_ne];exact hx
  go_wp2_with fail;go_ret3;refine⟨aM,.inr ⟨_,_,rfl,hx,?_⟩⟩;rcases HR with h|h;·exact .inl h
  exact .inr (h n)
 |ok ts=>
  have CP:=G (asg hR);have dI:=G (arL hR);(try rw[hR] at aV);simp only[RP] at aV;simp only[RP,Vf,Na];clear hR;obtain⟨A0,c0,rfl⟩:=eO aV;have Iq:ts.length<=c0:=by
   rcases aV.2 with⟨_,h2⟩|⟨g,cap,cur,h1,_,_,h2,_⟩;·omega
   injection h1 with _ _ h3;omega
  have ed:=aB.size;have hPs:Ps (w1.alloc (ag #[O A0 ts.length c0,(s.length:Int),C D 0,X] 111)) w1 w1 A0 ts.length c0 ts (s.length:Int) 0 X:=⟨ai.new _ _ _,(Reads.uA aV).keep (λp hp=>He (nK _ _ _ hp)),aC _,I,Y1,Iq,λt ht=>⟨(dI.2 t ht).1,by have:=(dI.2 t ht).2;omega⟩⟩;have HP:=G hPs;have aM:=G aB;clear aV aB hPs;go_wp2_with fail;refine(asb HP n Y1).mono ?_;rintro e w2 ⟨p,A,c,k',b',rfl,V8,fH,aJ,nE⟩;have fw:=aJ.size;simp only[aW] at fw;have sK:aj w w w2:=(aM.alloc ed _).trans (aJ.low I bB);have jg:=G (show(tk s).bind (tJ n 9000 9000)=if b' then J else N p by rw[CP.E];exact nE 9000 9000 Y1 Y1);have HRU:=G (V8.keep (S':=λq=>w.heap.size<=q/\q<w2.heap.size) (λq hq=>rfl) (λq hq=>⟨by have h0:=hq.1;simp only[aW] at h0;omega,hq.2⟩));have sI:=G fH;have nQ:=G sK;obtain⟨_,_,_,d3⟩:=fH.cells;clear V8 fH aJ sK nE HP aM;cases b';case true=>go_wp2_with fail;refine(asc sI).mono ?_;rintro e w3 ⟨⟨i,rfl⟩,aR⟩;have ZX:=G (nQ.trans (aR.mono nQ.size));clear aR;go_wp2_with fail;go_ret3;exact⟨ZX,.inr ⟨i,3,rfl,aL,.inr (λq hq=>by rw[jg.E] at hq;simp at hq)⟩⟩
  have nE:=jg;simp only[lK,if_false] at nE;have uL:af (p.length<=8000/\∀r∈p,zu r):=by
   rw[CP.E] at nE;simp only[bZ] at nE;have hl:(aZ ts).length<=8000:=by unfold aZ;rw[oz];exact dI.1
   obtain⟨h1,h2⟩:=arW _ _ _ nE (λt ht=>by unfold aZ at ht;obtain⟨u,hu,rfl⟩:=qw.1 ht;exact(dI.2 u hu).2) hl;exact⟨I,h2⟩
  have HV:=G (ZW p uL.2 _ A p.length c w2 (HE.after nQ) HRU (λq hq=>hq.2) (by have:=uL.1;omega));have We:=G nE;clear nE jg;go_wp2_with fail;refine HV.mono ?_;rintro e w3 ⟨rfl,aR⟩;have ZX:=G (nQ.trans (aR.mono nQ.size));have ash:=G (HRU.keep (S':=λq=>w.heap.size<=q/\q<w3.heap.size) (λq hq=>aR.block q hq.2) (λq hq=>⟨hq.1,yA hq.2 aR.size⟩));clear aR HV;cases aX:jT p;case false=>have acM:=G aX;clear aX;go_wp2_with fail;go_ret3;exact⟨ZX,.inr ⟨0,6,rfl,aL,.inr (λq hq=>by rw[We.E] at hq;injection hq with hq;subst hq;exact acM)⟩⟩
  have acM:=G aX;clear aX;go_wp2_with fail;go_ret3;exact⟨ZX,.inl ⟨p,A,c,rfl,ash,We,acM,uL.2,uL.1⟩⟩
end Go.Proofs.YtgnflmdpalmejaaGreatDoor
