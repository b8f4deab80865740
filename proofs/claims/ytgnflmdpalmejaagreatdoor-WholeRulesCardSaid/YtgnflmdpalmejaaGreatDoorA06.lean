/- Lemmas for the proof of WholeRules (the card is in the file ..WholeRulesCard); each lemma names its own conditions. -/
import Derived.Test.YtgnflmdpalmejaaGreatDoorA02
import Derived.Test.YtgnflmdpalmejaaGreatDoorA03
import Derived.Lib.OthersKept
import Derived.Shelf.Strings.Builder1
import Derived.Shelf.Strings.BuilderK
namespace Go.Proofs.YtgnflmdpalmejaaGreatDoor
open And renaming intro->bI
open Bool renaming and_eq_true->bq,false->X,true->Z
open _root_.ByteArray renaming data_append->JV,ext->KQ
open Go.Act renaming put->uB
open Go renaming Addr->aK,Calls->aF,TypeId->bM,Value->ak,World->Y,wp_region_held_drew->iA
open Go.Ending renaming returned->aI
open Go.Instr renaming index->KW
open Go.IntKind renaming i64->D
open Go.Lib renaming byteCells->Wm,itoa->iG,join->Jy
open Go.Obj renaming cells->ag
open Go.Region renaming ready->RJ
open Go.RowKit renaming Below->aj
open Go.RowKit.Below renaming refl->aN
open Go.Value renaming agg->aD,bool->ax,int->C,pointer->aQ,slice->O,string->au,tuple->bz
open Go.World renaming ownsRow_nil->ng,size_alloc->aW
open Inhabited renaming default->ay
open List renaming all_eq_true->xD,append_assoc->xw,cons_append->o6,flatMap_cons->Hq,getD->dO,getElem?_cons_succ->iX,getElem?_cons_zero->iI,getElem?_map->xy,getElem?_toArray->iH,getElem_cons_succ->uE,getElem_cons_zero->uD,getElem_mem->rF,getElem_toArray->uC,length_append->eB,length_cons->iP,length_map->oz,length_nil->pV,length_take->xq,map_append->oM,mem_cons->jZ,mem_cons_of_mem->F8,mem_of_find?_eq_some->RU,nil_append->wF,not_mem_nil->nJ,setIfInBounds_toArray->pY,set_cons_succ->oP,set_cons_zero->oh,take_of_length_le->o7,take_succ_eq_append_getElem->sD
open Nat renaming le_refl->aC,le_trans->ja
open Option renaming map_some->qh,none->J,some->N
open Option.some renaming injEq->kH
open Prod.mk renaming injEq->xL
open Go.Proofs.Tryz renaming prog->aa
open Go.RowKit Go.Lib Go.Proofs.Tryz
set_option maxRecDepth 100000
set_option maxHeartbeats 32000000
set_option linter.unusedVariables false
set_option linter.unusedSimpArgs false
variable{R:Prop}{b g i k n:Nat}{r:di}{w w':Y}{x:Ex}{α:Type}
theorem ah8(a b:List UInt8):(⟨a.toArray⟩:ByteArray)++⟨b.toArray⟩=⟨(a++b).toArray⟩:=by apply KQ;rw[JV];simp
def asi(w:Y)(h:lL)(v:ak)(x:Ex):Prop:=∀W,aj w w W->aF aa 82 #[gJ h v] W λe W'=>e=aI (au ⟨(fK x).toArray⟩)/\aj W W W'
def asj(w:Y)(h:lL)(v:ak)(x:Ex):Prop:=∀W,aj w w W->∀l:Nat,aF aa 33 #[gJ h v,(l:Int)] W λe W'=>e=aI (au ⟨(eQ x l).toArray⟩)/\aj W W W'
theorem asl{x:Ex}{l:Nat}(h:bY x.hd.kind<l):eQ x l= [40]++fK x++ [41]:=by unfold eQ;rw[if_pos h]
theorem ah9{x:Ex}{l:Nat}(h:¬bY x.hd.kind<l):eQ x l=fK x:=by unfold eQ;rw[if_neg h]
theorem aia(x:Ex)(A:Option aK)(na ca:Nat)(w:Y)(hlb:(fK x).length<=1000000000)(H:asi w x.hd (O A na ca) x):asj w x.hd (O A na ca) x:=by
 intro W hW l;have HB:=G (λW' (h:aj W W W')=>H W' (hW.trans (h.mono hW.size)));have HL:=G (λW'=>aqz x.hd A na ca W');have HT:=G (bI (@asl x l) (@ah9 x l));clear H hW;generalize fK x=bx at*;generalize eQ x l=tx at*;generalize x.hd=h at*;obtain⟨kd,vl,fr,az,nm⟩:=h;unfold gJ at*;simp only[] at HB HL HT;have HX:=G (ai.new W 128 #[kd,vl,fr,az,nm,O A na ca]);have aP:=G ((aN W W).alloc (aC _) (ag #[kd,vl,fr,az,nm,O A na ca] 128));go_enter func33,ntmps33;go_wp2_with fail;refine(HB _ aP).mono ?_;rintro e w1 ⟨rfl,aB⟩;have bO:=G (HX.below aB aG);have aM:=G (aP.trans (aB.mono aG));obtain⟨x0,x1,x2,x3,x4,x5⟩:=gW bO;clear aB HX HB;go_wp2_with fail;refine(HL w1).mono ?_;rintro e w2 ⟨rfl,aJ⟩;have aS:=G (aM.trans (aJ.mono aM.size));clear aJ;by_cases aO:bY kd<l;·have F:=G (HT.1 aO);have n1:¬9223372036854775807<1+bx.length:=I;have n2:¬9223372036854775807<1+bx.length+1:=I;clear HT HL;go_wp2_with fail;go_ret;exact⟨by show aI (au _)=_;rw[F.E];exact congrArg (λz=>aI (au z)) ((congrArg (· ++(⟨[41].toArray⟩:ByteArray)) (ah8 [40] bx)).trans (ah8 _ _)),aS⟩
 have F:=G (HT.2 aO);clear HT HL;go_wp2_with fail;go_ret;exact⟨by show aI (au _)=_;rw[F.E],aS⟩
theorem Ir{x:Int}(h0: -9223372036854775808<=x)(h1:x<=9223372036854775807):(iG x).length<=21:=Lib.itoa_length_le x h0 h1
theorem SC(x:Int)(w:Y)(h0: -9223372036854775808<=x)(h1:x<=9223372036854775807)(hE:Env w):
  aF aa 32 #[x] w λe w'=>e=aI (au ⟨(iG x).toArray⟩)/\aj w w w':=by refine(strconv_Itoa _ h0 h1 _ hE.tab).mono ?_;rintro e w1 ⟨rfl,kg⟩;exact⟨rfl,anL kg⟩
theorem asn:jd.all (λo=>decide (o.1.length<=3))=Z:=by decide
theorem aib{k:Int}{o:List UInt8 × Int × Nat}(h:xz k=N o):o.1.length<=3:=by have:=xD.1 asn o (RU h);simpa using this
theorem aic(h:R:=by simp only[bq,decide_eq_true_eq,beq_iff_eq] at h4;rw[h4.2];simp only[pV];omega):R:=h
theorem aid(h:R:=by
  split at h6;·simp at h6
  ·simp only[bq,decide_eq_true_eq] at h6;exact h6.1.2):R:=h
theorem aie(h:R:=by unfold qf at h6;exact aid):R:=h
theorem Iu{h:lL}(H:oZ h n=Z): -9223372036854775808<=h.value/\h.value<=9223372036854775807/\ -9223372036854775808<=h.from_/\h.from_<=9223372036854775807/\ -9223372036854775808<=h.az/\h.az<=9223372036854775807/\h.name.length<=16:=by
 unfold oZ at H;simp only[bq,decide_eq_true_eq,beq_iff_eq] at H;obtain⟨_,h4⟩:=H;by_cases g1:h.kind=1;·rw[if_pos g1] at h4;exact aic
 by_cases g2:h.kind=2
 ·rw[if_neg g1,if_pos g2] at h4;simp only[bq,beq_iff_eq] at h4;have h5:h.name.length<=16:=by have h6:=h4.1;exact aie
  rw[h4.2];simp only[];omega
 by_cases g3:h.kind=20;·rw[if_neg g1,if_neg g2,if_pos g3] at h4;exact aic
 by_cases g4:h.kind=21\/h.kind=22;·rw[if_neg g1,if_neg g2,if_neg g3,if_pos g4] at h4;simp only[bq,beq_iff_eq] at h4;obtain⟨⟨h5,h6⟩,h7⟩:=h4;unfold iw at h5 h6;simp only[bq,decide_eq_true_eq] at h5 h6;rw[h7];simp only[pV];omega
 rw[if_neg g1,if_neg g2,if_neg g3,if_neg g4] at h4;simp only[beq_iff_eq] at h4;rw[h4];simp only[hk,pV];omega
theorem SE{c:Prop}[Decidable c](l:List UInt8):(if c then[40]++l++ [41] else l).length<=l.length+2:=by
 split;·simp
 omega
theorem acN(h:R:=by simp only[eB,iP,pV] at this |-;omega):R:=h
theorem PW:∀(x:Ex),eG x=Z->(fK x).length<=80*x.sz:=by
 intro x;induction x with
 |lf h=>
  intro ho;obtain⟨a1,a2,b1,b2,c1,c2,d⟩:=Iu ho;have e1:=Ir a1 a2;have e2:=Ir b1 b2;have e3:=Ir c1 c2;simp only[fK,Ex.sz];split;·omega
  split;·simp only[eB,qE,iP,pV];omega
  split;·simp only[eB,oU,iP,pV];omega
  omega
 |un h a ih=>
  intro ho;simp only[eG,bq] at ho;have i:=ih ho.2;obtain⟨a1,a2,_⟩:=Iu ho.1;have e1:=Ir a1 a2;simp only[fK,Ex.sz];split;·have:=SE (c:=bY a.hd.kind<7) (fK a);exact acN
  split;·have:=SE (c:=bY a.hd.kind<3) (fK a);simp only[eB,iP,pV,uH] at this |-;omega
  split;·have:=SE (c:=bY a.hd.kind<6) (fK a);simp only[eB,iP,pV,mM] at this |-;omega
  have:(if h.kind=4 then qc else nL).length<=5:=by split<;>decide
  exact acN
 |bi h a b qg vg=>
  intro ho;simp only[eG,bq] at ho;have i:=qg ho.2.1;have j:=vg ho.2.2;simp only[fK,Ex.sz];split;·rename_i o iY;have h3:=aib iY;have g1:=SE (c:=bY a.hd.kind<(if o.2.2=4 then 5 else o.2.2)) (fK a);have g2:=SE (c:=bY b.hd.kind<o.2.2+1) (fK b);simp only[eB,iP,pV] at g1 g2 |-;omega
  have:(if h.kind=10 then oQ else mY).length<=3:=by split<;>decide
  exact acN
theorem JX(x:Ex)(l:Nat):(eQ x l).length<=(fK x).length+2:=by unfold eQ;exact SE _
theorem aso(xs:List (List UInt8))(sep:List UInt8)(v:ak)(base:Nat)(w:Y)(ho:w.ownsRow base 9 1 v xs.length (xs.map Pt))(h0:0<xs.length)(hn:xs.length<=100000)(hl:(Jy xs sep).length<=140737488355328):
  aF aa 156 #[v,sep] w λe w'=>e=aI (au ⟨(Jy xs sep).toArray⟩)/\aj w w w':=by
 obtain⟨g,c,rfl,_,aO,hc,uf⟩:=acE ho h0;have e1:(xs.map λx=>(⟨x.toArray⟩:ByteArray)).map (λb=>b.data.toList)=xs:=by
  rw[List.map_map];conv=>rhs;rw[<-List.map_id xs]
  apply List.map_congr_left;intro x _;rfl
 have h:=strings_Join g 0 c (xs.map λx=>(⟨x.toArray⟩:ByteArray)) ⟨sep.toArray⟩ w (by
  intro j x hx;rw[xy] at hx;cases hz:xs[j]? with
  |none=>rw[hz] at hx;cases hx
  |some z=>rw[hz] at hx;simp only[qh,kH] at hx;subst hx;have hj:=(List.getElem?_eq_some_iff.1 hz).1;rw[Nat.zero_add,uf j I,xy,hz];rfl) aO (by rw[oz];omega) (by rw[oz];exact hc) (by rw[e1];exact hl)
 rw[e1,oz] at h;exact h
theorem asq:(aa.info? 9).map (λi=>(i.zero,i.size,i.bytes))=N (N (au ⟨#[]⟩),1,16):=by kernel_rfl
def Gd(w:Y)(S:Nat->Prop)(x:Ex):Prop:=∀y∈x.args,∀(W:Y) (A':Option aK) (n' c':Nat),aj w w W->eU W S y (O A' n' c')->∀l:Nat,aF aa 33 #[gJ y.hd (O A' n' c'),(l:Int)] W λe W'=>e=aI (au ⟨(eQ y l).toArray⟩)/\aj W W W'
def zg(x:Ex)(i:Nat):List (List UInt8):=(x.args.take i).map λy=>eQ y 0
theorem asr(h:i<=x.args.length):(zg x i).length=i:=by unfold zg;rw[oz,xq];omega
theorem ass(h:i<x.args.length):zg x (i+1)=zg x i++ [eQ (x.args.getD i ay) 0]:=by unfold zg;rw[sD h,oM];simp[dO,h]
theorem ZY(x:Ex)(nm:List UInt8)(S:Nat->Prop)(b:Nat)(A:Option aK)(na ca:Nat)(w:Y)(hX:ai w b 128 #[C D x.hd.kind,C D x.hd.value,C D x.hd.from_,C D x.hd.az,au ⟨x.hd.name.toArray⟩,O A na ca])(hA:eU w S x (O A na ca))(hS:∀q,S q->q<w.heap.size)(h0:0<na)
  (nO:nm.length<=100) (hK:Gd w S x) (hl:(Jy (zg x na) [44,32]).length<=1000000000) (hlk:∀y∈x.args,(fK y).length<=1000000000):
  aF aa 155 #[au ⟨nm.toArray⟩,aQ (N ⟨b,0,J⟩)] w λe w'=>e=aI (au ⟨(nm++ [40]++Jy (zg x na) [44,32]++ [41]).toArray⟩)/\aj w.heap.size w w':=by
 obtain⟨i0,gz,fu,gq,fG⟩:=info_parts asq;obtain⟨bH,hcap⟩:=hA.len;have gH:=G bH;have AL:na<=2:=OV;have HA:=G hA;have HS:=G hS;have HX:=G hX;have HK:=G hK;have HLJ:=G hl;have ZZ:=G (λi (h:i<=na)=>asr (x:=x) (i:=i) Rv);have HKS:=G (λi (h:i<na)=>ass (x:=x) (i:=i) Rv);obtain⟨x0,x1,x2,x3,x4,x5⟩:=gW hX;clear hX hA hS hK hl bH;go_enter func155,ntmps155;go_wp2_with fail;clear x0 x1 x2 x3 x4 x5;go_loopw [4,10] (λout iv wr=>∃i:Nat,iv=C D i/\i<=na/\wr.ownsRow w.heap.size 9 1 out i ((zg x i).map Pt)/\aj w.heap.size w wr) (λ_ iv _=>na-(intOf iv).toNat);case atStart=>exact⟨0,rfl,I,ng _ _ _ _,aN _ _⟩
 obtain⟨i,rfl,hi,aV,aH⟩:=hrel;obtain⟨wo,rfl⟩:=dz wr;have eP:=aH.size;obtain⟨Ao,co,rfl⟩:=eO aV;have HO:=G aV;have bA:=G aH;by_cases aO:i<na;case neg=>have k3:decide ((i:Int)<(na:Int))=X:=fI;obtain rfl:i=na:=I;have e1:=ZZ.E i (aC _);have HJ:af (aF aa 156 #[O Ao i co,au ⟨#[44,32]⟩] wo λe w'=>e=aI (au ⟨(Jy (zg x i) [44,32]).toArray⟩)/\aj wo.heap.size wo w'):=aso (zg x i) [44,32] _ _ wo (by rw[e1];exact HO.E) I I (by have:=HLJ.E;omega);have oN:=HLJ.E;clear aV aH e1;generalize hjn:Jy (zg x i) [44,32]=jn at*;have HJN:=G hjn;clear hjn;have n0:¬9223372036854775807<nm.length+1:=I;have n1:¬9223372036854775807<nm.length+1+jn.length:=I;have n2:¬9223372036854775807<nm.length+1+jn.length+1:=I;go_wp2_with fail;refine HJ.E.mono ?_;rintro e w2 ⟨rfl,aJ⟩;have aS:=G (bA.E.trans (aJ.mono eP));clear aJ;go_wp2_with fail;go_ret;exact⟨by show aI (au _)=_;rw[HJN.E];refine congrArg (λz=>aI (au z)) ?_;apply KQ;simp[JV],aS.E⟩
 have b3:(i:Int)<(na:Int):=I;have kG:=HA.E.keep (w':=wo) (S':=S) (λq hq=>aH.block q (HS.E q hq)) (λq hq=>hq);obtain⟨ga,A',n',c',rfl,F5,gT,kY⟩:=kG.at_ aO;have FS:=G (HKS.E i aO);have dK:=PK (show i<x.args.length by rw[<-gH.E];exact aO);have kZ:=JX (x.args.getD i ay) 0;have Bq:=hlk _ dK;have HC:af (∀W,aj wo.heap.size wo W->aF aa 33 #[gJ (x.args.getD i ay).hd (O A' n' c'),C D ((0:Nat):Int)] W λe W'=>e=aI (au ⟨(eQ (x.args.getD i ay) 0).toArray⟩)/\aj W.heap.size W W'):=λW hW=>HK.E _ dK W A' n' c' (aH.trans (hW.mono eP)) (kY.keep (λq hq=>hW.block q (by have:=HS.E q hq;omega)) (λq hq=>hq)) 0;unfold gJ at HC;clear kY dK kG aV;generalize x.args.getD i ay=y at*;obtain⟨a0,a1,a2,a3,a4,a5⟩:=Sk gT;clear gT;generalize Wh:y.hd=yh at*;clear Wh;obtain⟨ou,lN,lQ,gQ,fQ⟩:=yh;simp only[] at HC a0 a1 a2 a3 a4;have hcz:((0:Nat):Int)=0:=rfl;rw[hcz] at HC;have jw:=G (aH.alloc eP (ag #[C D ou,C D lN,C D lQ,C D gQ,au ⟨fQ.toArray⟩,O A' n' c'] 128));have ni:=G (HO.E.alloc (ag #[C D ou,C D lN,C D lQ,C D gQ,au ⟨fQ.toArray⟩,O A' n' c'] 128));clear aH;go_wp2_with fail;refine(HC.E _ ((aN wo.heap.size wo).alloc (aC _) _)).mono ?_;rintro e' w2 ⟨rfl,aJ⟩;have aS:=G (aU jw.E aJ);have iW:=G (own_below ni.E aJ);have fw:wo.heap.size<w2.heap.size:=Ri;clear aJ a0 a1 a2 a3 a4 a5;generalize eQ y 0=ty at*;go_wp2_with(at_builtin;refine pX _ rfl (.tmp 14) (.tmp 17) _ rfl w.heap.size 9 i0 _ 1 16 underlying262 gz fu gq fG rfl I _ i ((zg x i).map Pt) rfl (iW.E.alloc _) (w2.heap.size+1) (N ⟨w2.heap.size,0,J⟩) 1 1 [au ⟨ty.toArray⟩] rfl (mX w2 #[au ⟨ty.toArray⟩] 9 1 rfl) rZ lH I bB ?_;intro v6 w6 dw bU iT;have oL:=G (bI dw bU);clear dw bU iT);refine⟨⟨i+1,bR,I,?_,?_⟩,bW⟩;·rw[FS.E,oM];exact oL.E.1
 exact(aS.E.alloc I _).trans (tu (iW.E.alloc _) oL.E.2 bB)
theorem aif(nm:List UInt8)(b:Nat)(kd vl fr az:Int)(fQ:List UInt8)(v:ak)(w:Y)(hE:Env w)(hX:ai w b 128 #[kd,vl,fr,az,fQ,v])(nO:nm.length<=100)(b1: -9223372036854775808<=fr)(b2:fr<=9223372036854775807)(c1: -9223372036854775808<=az)(c2:az<=9223372036854775807):
  aF aa 157 #[nm,aQ b] w λe w'=>e=aI (au ⟨(nm++ [40]++iG fr++ [46,46]++iG az++ [41]).toArray⟩)/\aj w w w':=by
 have e1:=Ir b1 b2;have e2:=Ir c1 c2;have fq:=hX.lt;have lg:af (∀W,aj w w W->Env W):=λW h=>hE.after h;obtain⟨x0,x1,x2,x3,x4,x5⟩:=gW hX;clear hX hE x0 x1 x4 x5;have n0:¬9223372036854775807<nm.length+1:=I;have n1:¬9223372036854775807<nm.length+1+(iG fr).length:=I;have n2:¬9223372036854775807<nm.length+1+(iG fr).length+2:=I;have n3:¬9223372036854775807<nm.length+1+(iG fr).length+2+(iG az).length:=I;have n4:¬9223372036854775807<nm.length+1+(iG fr).length+2+(iG az).length+1:=I;go_enter func157,ntmps157;go_upto_region 1 with fail;have CZ:af (aj w w w.drew/\w.drew.cell? ⟨b,2,J⟩=N (C D fr)/\w.drew.cell? ⟨b,3,J⟩=N (C D az)):=⟨qH (aN _ _),x2,x3⟩;refine iA (S:=λw'=>aj w w w'/\w'.cell? ⟨b,2,J⟩=N (C D fr)/\w'.cell? ⟨b,3,J⟩=N (C D az)) dh CZ (λbg=>?_);refine aA 0 ?_;refine aA 1 ?_;refine aA 2 ?_;refine aA 3 ?_;refine aA 7 ?_;refine aA 8 ?_;refine bK 4 (λK hK=>?_);go_simp;refine(SC _ _ Jz Jz (lg _ bg.1)).mono ?_;rintro e w4 ⟨rfl,bu⟩;dsimp only
 have rH:aj w w w4:=bg.1.trans (bu.mono bg.1.size);have rJ:aj w w w4/\w4.cell? ⟨b,2,J⟩=N (C D fr)/\w4.cell? ⟨b,3,J⟩=N (C D az):=⟨rH,(rH.cell (p:=⟨b,2,J⟩) fq).trans x2,(rH.cell (p:=⟨b,3,J⟩) fq).trans x3⟩;refine bF hK (by exact rJ) (λbg=>?_);clear hK K;refine aA 5 ?_;refine aA 6 ?_;refine bK 9 (λK hK=>?_);go_simp;refine(SC _ _ Jz Jz (lg _ rJ.1)).mono ?_;rintro e w9 ⟨rfl,rO⟩;dsimp only
 have Lj:aj w w w9:=rJ.1.trans (rO.mono rJ.1.size);have HS9:aj w w w9/\w9.cell? ⟨b,2,J⟩=N (C D fr)/\w9.cell? ⟨b,3,J⟩=N (C D az):=⟨Lj,(Lj.cell (p:=⟨b,2,J⟩) fq).trans x2,(Lj.cell (p:=⟨b,3,J⟩) fq).trans x3⟩;refine bF hK (by exact HS9) (λbg=>?_);clear hK K;refine aA 10 ?_;refine aA 11 ?_;refine aA 12 ?_;refine gI ?_;go_wp2_with fail;go_ret;exact⟨by show aI (au _)=_;refine congrArg (λz=>aI (au z)) ?_;apply KQ;simp[JV],HS9.1⟩
theorem Z0{a:ByteArray}{b:List UInt8}(h:a.data.toList=b):aI (au a)=aI b:=by subst h;rfl
theorem Iw{k:Int}(h:xz k=J):∀i,i<11->((jd.getD i ([],0,0)).2.1==k)=X:=by
 intro i hi;have h2:=List.find?_eq_none.1 h (jd.getD i ([],0,0)) (by
  have hl:i<jd.length:=by rw[Px];exact hi
  have:jd.getD i ([],0,0)=jd[i]:=by simp[dO,hl]
  rw[this];exact rF hl)
 simpa using h2
theorem tl1(k:True)(h:R:=by go_wp2_with fail;refine(SC _ _ h1 h2 (lg _ bA)).mono ?_;rintro e w2 ⟨rfl,aJ⟩;have aS:=G (aU bA aJ);clear aJ;go_wp2_with fail;go_ret;exact⟨rfl,aS⟩):R:=h
theorem tl2(k:True)(h:R:=by go_wp2_with fail;go_ret;exact⟨rfl,bA⟩):R:=h
theorem ast(k:True)(h:R:=by have HC:=G (aif qE w 21 vl fr az nm (O A na ca) wo (lg _ bA) HK aL b1 b2 c1 c2);simp only[qE] at HC;go_wp2_with fail;refine HC.mono ?_;rintro e w2 ⟨rfl,aJ⟩;have aS:=G (aU bA aJ);clear aJ;go_wp2_with fail;go_ret;exact⟨RO (by simp[qE]),aS⟩):R:=h
theorem asu(k:True)(h:R:=by have HC:=G (aif oU w 22 vl fr az nm (O A na ca) wo (lg _ bA) HK aL b1 b2 c1 c2);simp only[oU] at HC;go_wp2_with fail;refine HC.mono ?_;rintro e w2 ⟨rfl,aJ⟩;have aS:=G (aU bA aJ);clear aJ;go_wp2_with fail;go_ret;exact⟨RO (by simp[oU]),aS⟩):R:=h
theorem tl3(k:True)(h:R:=by obtain⟨a0,a1,a2,a3,a4,a5⟩:=gW (HG.below bA BQ);have vZ:=G (HT wo bA 7);rw[show((7:Nat):Int)=7 from rfl] at vZ;have aih:=uJ 7;generalize qY:eQ a 7=tx at*;have yI:=G qY;clear qY;go_wp2_with fail;refine vZ.mono ?_;rintro e w2 ⟨rfl,aJ⟩;have aS:=G (aU bA aJ);clear aJ vZ;have n0:¬9223372036854775807<1+tx.length:=I;go_wp2_with fail;go_ret;exact⟨by rw[yI.E];exact Z0 (by simp[JV]),aS⟩):R:=h
theorem tl6(k:True)(h:R:=by obtain⟨a0,a1,a2,a3,a4,a5⟩:=gW (HG.below bA BQ);have vZ:=G (HT wo bA 3);rw[show((3:Nat):Int)=3 from rfl] at vZ;have aih:=uJ 3;generalize qY:eQ a 3=tx at*;have yI:=G qY;clear qY;go_wp2_with fail;refine vZ.mono ?_;rintro e w2 ⟨rfl,aJ⟩;have aS:=G (aU bA aJ);clear aJ vZ;have n0:¬9223372036854775807<4+tx.length:=I;go_wp2_with fail;go_ret;exact⟨by rw[yI.E];exact Z0 (by simp[JV,uH]),aS⟩):R:=h
theorem tl4(k:True)(h:R:=by
  have HC:af (aF aa 155 #[qc,aQ w] wo λe w'=>e=aI (au ⟨(qc++ [40]++eQ a 0++ [41]).toArray⟩)/\aj wo wo w'):=by have hj:Jy (zg (.un ⟨4,vl,fr,az,nm⟩ a) 1) [44,32]=eQ a 0:=Lib.join_one _ _;have:=ZY (.un ⟨4,vl,fr,az,nm⟩ a) qc S w (N ⟨g,0,J⟩) 1 1 wo HK (HA.keep (λq hq=>bA.block q (jc q hq)) (λq hq=>hq)) (λq hq=>by have:=jc q hq;omega) I aL (λy hy W A2 n2 c2 hW Eo l=>Wi y hy W A2 n2 c2 (aU bA hW) Eo l) (by rw[hj];have:=uJ 0;omega) ae2;rw[hj] at this;exact this
  generalize qY:eQ a 0=tx at*;have yI:=G qY;clear qY;simp only[qc] at HC;go_wp2_with fail;refine HC.mono ?_;rintro e w2 ⟨rfl,aJ⟩;have aS:=G (aU bA aJ);clear aJ;go_wp2_with fail;go_ret;exact⟨by rw[yI.E];exact RO (by simp[qc]),aS⟩):R:=h
theorem tl5(k:True)(h:R:=by
  have HC:af (aF aa 155 #[nL,aQ w] wo λe w'=>e=aI (au ⟨(nL++ [40]++eQ a 0++ [41]).toArray⟩)/\aj wo wo w'):=by have hj:Jy (zg (.un ⟨5,vl,fr,az,nm⟩ a) 1) [44,32]=eQ a 0:=Lib.join_one _ _;have:=ZY (.un ⟨5,vl,fr,az,nm⟩ a) nL S w (N ⟨g,0,J⟩) 1 1 wo HK (HA.keep (λq hq=>bA.block q (jc q hq)) (λq hq=>hq)) (λq hq=>by have:=jc q hq;omega) I aL (λy hy W A2 n2 c2 hW Eo l=>Wi y hy W A2 n2 c2 (aU bA hW) Eo l) (by rw[hj];have:=uJ 0;omega) ae2;rw[hj] at this;exact this
  generalize qY:eQ a 0=tx at*;have yI:=G qY;clear qY;simp only[nL] at HC;go_wp2_with fail;refine HC.mono ?_;rintro e w2 ⟨rfl,aJ⟩;have aS:=G (aU bA aJ);clear aJ;go_wp2_with fail;go_ret;exact⟨by rw[yI.E];exact RO (by simp[nL]),aS⟩):R:=h
theorem asv(k:True)(h:R:=by
  obtain⟨a0,a1,a2,a3,a4,a5⟩:=gW (HG.below bA BQ);have vZ:=G (λW hW=>HT W hW 6);rw[show((6:Nat):Int)=6 from rfl] at vZ;have aih:=uJ 6;have rP:=Ir h1 h2;generalize qY:eQ a 6=tx at*;have yI:=G qY;clear qY;have n0:¬9223372036854775807<tx.length+5:=I;have n1:¬9223372036854775807<tx.length+5+(iG vl).length:=I;have Ll:af (∀y,aj wo wo y->(λy:Y=>aj wo wo y/\y.cell? ⟨w,1,J⟩=N (C D vl)/\y.cell? ⟨w,5,J⟩=N (O g 1 1)/\y.cell? ⟨g,0,J⟩=N (C D ka)/\y.cell? ⟨g,1,J⟩=N (C D va)/\y.cell? ⟨g,2,J⟩=N (C D fa)/\y.cell? ⟨g,3,J⟩=N (C D ta)/\y.cell? ⟨g,4,J⟩=N (au ⟨ma.toArray⟩)/\y.cell? ⟨g,5,J⟩=N (O A' n' c')) y):=λy hy=>⟨hy,(hy.cell (p:=⟨w,1,J⟩) hwo).trans x1,(hy.cell (p:=⟨w,5,J⟩) hwo).trans x5,(hy.cell (p:=⟨g,0,J⟩) Rs).trans a0,(hy.cell (p:=⟨g,1,J⟩) Rs).trans a1,(hy.cell (p:=⟨g,2,J⟩) Rs).trans a2,(hy.cell (p:=⟨g,3,J⟩) Rs).trans a3,(hy.cell (p:=⟨g,4,J⟩) Rs).trans a4,(hy.cell (p:=⟨g,5,J⟩) Rs).trans a5⟩;go_upto_region 20 with fail;refine iA (S:=λy:Y=>aj wo wo y/\y.cell? ⟨w,1,J⟩=N (C D vl)/\y.cell? ⟨w,5,J⟩=N (O g 1 1)/\y.cell? ⟨g,0,J⟩=N (C D ka)/\y.cell? ⟨g,1,J⟩=N (C D va)/\y.cell? ⟨g,2,J⟩=N (C D fa)/\y.cell? ⟨g,3,J⟩=N (C D ta)/\y.cell? ⟨g,4,J⟩=N (au ⟨ma.toArray⟩)/\y.cell? ⟨g,5,J⟩=N (O A' n' c')) dh (Ll _ (qH (aN _ _))) (λbg=>?_);refine aA 0 ?_;refine aA 1 ?_;refine aA 2 ?_;refine aA 3 ?_;refine aA 6 ?_;refine aA 7 ?_;refine bK 4 (λK hK=>?_);go_simp;refine(vZ _ (aU bA (qH (aN _ _)))).mono ?_;rintro e w2 ⟨rfl,aJ⟩;dsimp only
  have JY:aj wo wo w2:=(qH (aN _ _)).trans aJ;refine bF hK (by exact Ll _ JY) (λbg=>?_);clear hK K aJ;refine aA 5 ?_;refine bK 8 (λK hK=>?_);go_simp;refine(SC _ _ h1 h2 (lg _ (aU bA JY))).mono ?_;rintro e w3 ⟨rfl,aR⟩;dsimp only
  have Wj:aj wo wo w3:=JY.trans (aR.mono JY.size);refine bF hK (by exact Ll _ Wj) (λbg=>?_);clear hK K aR;refine aA 9 ?_;refine aA 10 ?_;refine gI ?_;go_wp2_with fail;go_ret;exact⟨by rw[yI.E];exact Z0 (by simp[JV,mM]),aU bA Wj⟩):R:=h
theorem asw(k:True)(h:R:=by
  have HC:af (aF aa 155 #[oQ,aQ w] wo λe w'=>e=aI (au ⟨(oQ++ [40]++(eQ a 0++ [44,32]++eQ b 0)++ [41]).toArray⟩)/\aj wo wo w'):=by have hj:Jy (zg (.bi ⟨10,vl,fr,az,nm⟩ a b) 2) [44,32]=eQ a 0++ [44,32]++eQ b 0:=afw;have:=ZY (.bi ⟨10,vl,fr,az,nm⟩ a b) oQ S w A 2 ca wo HK (HA.keep (λq hq=>bA.block q (jc q hq)) (λq hq=>hq)) (λq hq=>by have:=jc q hq;omega) I aL (λy hy W A2 n2 c2 hW Eo l=>Wi y hy W A2 n2 c2 (aU bA hW) Eo l) ae5 ae1;rw[hj] at this;exact this
  generalize qY:eQ a 0=tx at*;generalize kZ:eQ b 0=ty at*;have yI:=G (bI qY kZ);clear qY kZ;simp only[oQ] at HC;go_wp2_with fail;refine HC.mono ?_;rintro e w2 ⟨rfl,aJ⟩;have aS:=G (aU bA aJ);clear aJ;go_wp2_with fail;go_ret;exact⟨by rw[yI.E.1,yI.E.2];exact RO (by simp[oQ]),aS⟩):R:=h
theorem asx(k:True)(h:R:=by
  have HC:af (aF aa 155 #[mY,aQ w] wo λe w'=>e=aI (au ⟨(mY++ [40]++(eQ a 0++ [44,32]++eQ b 0)++ [41]).toArray⟩)/\aj wo wo w'):=by have hj:Jy (zg (.bi ⟨11,vl,fr,az,nm⟩ a b) 2) [44,32]=eQ a 0++ [44,32]++eQ b 0:=afw;have:=ZY (.bi ⟨11,vl,fr,az,nm⟩ a b) mY S w A 2 ca wo HK (HA.keep (λq hq=>bA.block q (jc q hq)) (λq hq=>hq)) (λq hq=>by have:=jc q hq;omega) I aL (λy hy W A2 n2 c2 hW Eo l=>Wi y hy W A2 n2 c2 (aU bA hW) Eo l) ae5 ae1;rw[hj] at this;exact this
  generalize qY:eQ a 0=tx at*;generalize kZ:eQ b 0=ty at*;have yI:=G (bI qY kZ);clear qY kZ;simp only[mY] at HC;go_wp2_with fail;refine HC.mono ?_;rintro e w2 ⟨rfl,aJ⟩;have aS:=G (aU bA aJ);clear aJ;go_wp2_with fail;go_ret;exact⟨by rw[yI.E.1,yI.E.2];exact RO (by simp[mY]),aS⟩):R:=h
theorem SF(h:R:=by
  have lg:af (∀W,aj w w W->Env W):=λW h=>hE.after h;clear hE;go_enter func82,ntmps82;go_wp2_with fail;refine(Zy _).mono ?_;rintro e' w1 ⟨rfl,aB⟩;have aM:=G (aU ((aN w w).alloc (aC _) _) aB);have tY:=G ((ai.new w _ _).below aB aG);have ed:w.heap.size<w1.heap.size:=zT;clear aB;generalize Hz:(Value.agg Bw)=Py at*;have H5:af (∀k:Nat,k<11->∀w:Y,(KW 274 Py (C D (k:Int))).run aa w= .ok (aD (FU (jd.getD k ([],0,0)))) w):=by show ∀k:Nat,_;rw[<-Hz];exact Zz
  clear Hz;go_wp2_with fail;go_loopw [9] (λiv wr=>∃i:Nat,iv=C D i/\i<=11/\aj w1 w1 wr) (λiv _=>11-(intOf iv).toNat);case atStart=>exact⟨0,rfl,I,aN _ _⟩
  case round=>
   obtain⟨i,rfl,hi,aH⟩:=hrel;obtain⟨wo,rfl⟩:=dz wr;have bA:=G (aU aM aH);have eP:=aH.size;have hK:=tY.below aH ed;have HK:=G hK;by_cases aO:i<11;case pos=>have k3:decide ((i:Int)<11)=Z:=jO;have D5:=H5 i aO;have h1:=qJ i aO;generalize jd.getD i ([],0,0)=o at*;obtain⟨tx,ok,lv⟩:=o;unfold FU at D5;simp only[] at D5 h1;have c0:=(hK.alloc (ag #[tx,ok,C D (lv:Nat)] 273)).cell 0;simp only[iH,iX,iI] at c0;have oq:=G (aH.alloc eP (ag #[tx,ok,C D (lv:Nat)] 273));clear aH hK;go_wp2_with fail;exact⟨⟨i+1,bR,I,oq⟩,bW⟩
   case neg=>have k3:decide ((i:Int)<11)=X:=fI;obtain⟨x0,x1,x2,x3,x4,x5⟩:=gW hK;have hwo:w.heap.size<wo.heap.size:=I;clear hK aH H5 qJ;first|exact tl1 tg1|exact tl2 tg2|exact ast asy|exact asu asz|exact tl3 tg3|exact tl6 tg6|exact tl4 tg4|exact tl5 tg5|exact asv asA|exact asw asB|exact asx asC):R:=h
theorem Wl(h:R:=by have HA:=G hA;obtain⟨g,va,ea,hg,dU,SG⟩:=hA;injection ea with ea1 ea2 ea3;subst ea1 ea2 ea3;obtain⟨A',n',c',rfl,-⟩:=SG.form;have BQ:=hS g hg;have HT:af (∀W,aj w w W->∀l:Nat,aF aa 33 #[gJ a.hd (O A' n' c'),(l:Int)] W λe W'=>e=aI (au ⟨(eQ a l).toArray⟩)/\aj W W W'):=λW hW l=>hK a (by simp[Ex.args]) W A' n' c' hW (SG.keep (λq hq=>hW.block q (hS q hq)) (λq hq=>hq)) l;have uJ:=λl=>JX a l;have HG:=G dU;have Wi:=G hK;have jc:=G hS;unfold gJ at HT;unfold FK at HG;clear dU SG hK hS;generalize hhh:a.hd=ah at*;clear hhh;obtain⟨ka,va,fa,ta,ma⟩:=ah;simp only[] at HT HG;exact SF):R:=h
theorem bhb(h:R:=by
  have hl:=hA.len;have HA:=G hA;have Wi:=G hK;have jc:=G hS;have CY:=JX a 0;have htb:=JX b 0;have AL:na=2:=by rw[hl.1];rfl
  subst AL;clear hA hK hS hl;exact SF):R:=h
theorem asD(vl fr az:Int)(nm:List UInt8)(A:Option aK)(na ca:Nat)(w:Y)(hE:Env w)(h1: -9223372036854775808<=vl)(h2:vl<=9223372036854775807):
  aF aa 82 #[aD #[C D 1,vl,fr,az,nm,O A na ca]] w λe W'=>e=aI (au ⟨(iG vl).toArray⟩)/\aj w w W':=by have qJ:=G (Iw (k:=1) aL);have tg1:=trivial;exact SF
theorem asE(vl fr az:Int)(nm:List UInt8)(A:Option aK)(na ca:Nat)(w:Y)(hE:Env w):
  aF aa 82 #[aD #[C D 2,vl,fr,az,nm,O A na ca]] w λe W'=>e=aI (au ⟨(nm).toArray⟩)/\aj w w W':=by have qJ:=G (Iw (k:=2) aL);have tg2:=trivial;exact SF
theorem asF(vl fr az:Int)(nm:List UInt8)(A:Option aK)(na ca:Nat)(w:Y)(hE:Env w)(b1: -9223372036854775808<=fr)(b2:fr<=9223372036854775807)(c1: -9223372036854775808<=az)(c2:az<=9223372036854775807):
  aF aa 82 #[aD #[C D 21,vl,fr,az,nm,O A na ca]] w λe W'=>e=aI (au ⟨(qE++ [40]++iG fr++ [46,46]++iG az++ [41]).toArray⟩)/\aj w w W':=by have qJ:=G (Iw (k:=21) aL);have asy:=trivial;exact SF
theorem asG(vl fr az:Int)(nm:List UInt8)(A:Option aK)(na ca:Nat)(w:Y)(hE:Env w)(b1: -9223372036854775808<=fr)(b2:fr<=9223372036854775807)(c1: -9223372036854775808<=az)(c2:az<=9223372036854775807):
  aF aa 82 #[aD #[C D 22,vl,fr,az,nm,O A na ca]] w λe W'=>e=aI (au ⟨(oU++ [40]++iG fr++ [46,46]++iG az++ [41]).toArray⟩)/\aj w w W':=by have qJ:=G (Iw (k:=22) aL);have asz:=trivial;exact SF
theorem asH(a:Ex)(S:Nat->Prop)(vl fr az:Int)(nm:List UInt8)(A:Option aK)(na ca:Nat)(w:Y)(hE:Env w)(hS:∀q,S q->q<w.heap.size)(hA:eU w S (.un ⟨3,vl,fr,az,nm⟩ a) (O A na ca))(hK:Gd w S (.un ⟨3,vl,fr,az,nm⟩ a))(hl:(fK a).length<=100000000):
  aF aa 82 #[aD #[C D 3,vl,fr,az,nm,O A na ca]] w λe W'=>e=aI (au ⟨([45]++eQ a 7).toArray⟩)/\aj w w W':=by have qJ:=G (Iw (k:=3) aL);have tg3:=trivial;exact Wl
theorem asI(a:Ex)(S:Nat->Prop)(vl fr az:Int)(nm:List UInt8)(A:Option aK)(na ca:Nat)(w:Y)(hE:Env w)(hS:∀q,S q->q<w.heap.size)(hA:eU w S (.un ⟨6,vl,fr,az,nm⟩ a) (O A na ca))(hK:Gd w S (.un ⟨6,vl,fr,az,nm⟩ a))(hl:(fK a).length<=100000000):
  aF aa 82 #[aD #[C D 6,vl,fr,az,nm,O A na ca]] w λe W'=>e=aI (au ⟨(uH++ [32]++eQ a 3).toArray⟩)/\aj w w W':=by have qJ:=G (Iw (k:=6) aL);have tg6:=trivial;exact Wl
theorem asJ(a:Ex)(S:Nat->Prop)(vl fr az:Int)(nm:List UInt8)(A:Option aK)(na ca:Nat)(w:Y)(hE:Env w)(hS:∀q,S q->q<w.heap.size)(hA:eU w S (.un ⟨4,vl,fr,az,nm⟩ a) (O A na ca))(hK:Gd w S (.un ⟨4,vl,fr,az,nm⟩ a))(hl:(fK a).length<=100000000):
  aF aa 82 #[aD #[C D 4,vl,fr,az,nm,O A na ca]] w λe W'=>e=aI (au ⟨(qc++ [40]++eQ a 0++ [41]).toArray⟩)/\aj w w W':=by have qJ:=G (Iw (k:=4) aL);have tg4:=trivial;exact Wl
theorem asK(a:Ex)(S:Nat->Prop)(vl fr az:Int)(nm:List UInt8)(A:Option aK)(na ca:Nat)(w:Y)(hE:Env w)(hS:∀q,S q->q<w.heap.size)(hA:eU w S (.un ⟨5,vl,fr,az,nm⟩ a) (O A na ca))(hK:Gd w S (.un ⟨5,vl,fr,az,nm⟩ a))(hl:(fK a).length<=100000000):
  aF aa 82 #[aD #[C D 5,vl,fr,az,nm,O A na ca]] w λe W'=>e=aI (au ⟨(nL++ [40]++eQ a 0++ [41]).toArray⟩)/\aj w w W':=by have qJ:=G (Iw (k:=5) aL);have tg5:=trivial;exact Wl
theorem asL(a:Ex)(S:Nat->Prop)(vl fr az:Int)(nm:List UInt8)(A:Option aK)(na ca:Nat)(w:Y)(hE:Env w)(hS:∀q,S q->q<w.heap.size)(hA:eU w S (.un ⟨20,vl,fr,az,nm⟩ a) (O A na ca))(hK:Gd w S (.un ⟨20,vl,fr,az,nm⟩ a))(hl:(fK a).length<=100000000)(h1: -9223372036854775808<=vl)(h2:vl<=9223372036854775807):
  aF aa 82 #[aD #[C D 20,vl,fr,az,nm,O A na ca]] w λe W'=>e=aI (au ⟨(eQ a 6++ [32]++mM++ [32]++iG vl).toArray⟩)/\aj w w W':=by have qJ:=G (Iw (k:=20) aL);have asA:=trivial;exact Wl
theorem asM(a b:Ex)(S:Nat->Prop)(vl fr az:Int)(nm:List UInt8)(A:Option aK)(na ca:Nat)(w:Y)(hE:Env w)(hS:∀q,S q->q<w.heap.size)(hA:eU w S (.bi ⟨10,vl,fr,az,nm⟩ a b) (O A na ca))(hK:Gd w S (.bi ⟨10,vl,fr,az,nm⟩ a b))(uM:(fK a).length<=100000000)(hlb:(fK b).length<=100000000):
  aF aa 82 #[aD #[C D 10,vl,fr,az,nm,O A na ca]] w λe W'=>e=aI (au ⟨(oQ++ [40]++eQ a 0++ [44,32]++eQ b 0++ [41]).toArray⟩)/\aj w w W':=by have qJ:=G (Iw (k:=10) aL);have asB:=trivial;exact bhb
theorem asN(a b:Ex)(S:Nat->Prop)(vl fr az:Int)(nm:List UInt8)(A:Option aK)(na ca:Nat)(w:Y)(hE:Env w)(hS:∀q,S q->q<w.heap.size)(hA:eU w S (.bi ⟨11,vl,fr,az,nm⟩ a b) (O A na ca))(hK:Gd w S (.bi ⟨11,vl,fr,az,nm⟩ a b))(uM:(fK a).length<=100000000)(hlb:(fK b).length<=100000000):
  aF aa 82 #[aD #[C D 11,vl,fr,az,nm,O A na ca]] w λe W'=>e=aI (au ⟨(mY++ [40]++eQ a 0++ [44,32]++eQ b 0++ [41]).toArray⟩)/\aj w w W':=by have qJ:=G (Iw (k:=11) aL);have asC:=trivial;exact bhb
theorem asO:jd.all (λo=>decide (o.2.2<=6))=Z:=by decide
theorem asP{k:Int}{o:List UInt8 × Int × Nat}(h:xz k=N o):o.2.2<=6:=by have:=xD.1 asO o (RU h);simpa using this
theorem asQ{T:bM}{a0 a1 a2 a3 a4 a5 b0 b1 b2 b3 b4 b5:ak}(h:ai w g T #[a0,a1,a2,a3,a4,a5,b0,b1,b2,b3,b4,b5]):
  (w.cell? ⟨g,0,J⟩=N a0/\w.cell? ⟨g,1,J⟩=N a1/\w.cell? ⟨g,2,J⟩=N a2/\w.cell? ⟨g,3,J⟩=N a3/\w.cell? ⟨g,4,J⟩=N a4/\w.cell? ⟨g,5,J⟩=N a5)/\
  w.cell? ⟨g,6,J⟩=N b0/\w.cell? ⟨g,7,J⟩=N b1/\w.cell? ⟨g,8,J⟩=N b2/\w.cell? ⟨g,9,J⟩=N b3/\w.cell? ⟨g,10,J⟩=N b4/\w.cell? ⟨g,11,J⟩=N b5:=⟨⟨h.cell 0,h.cell 1,h.cell 2,h.cell 3,h.cell 4,h.cell 5⟩,h.cell 6,h.cell 7,h.cell 8,h.cell 9,h.cell 10,h.cell 11⟩
theorem aij(h:R:=by
  refine aA 0 ?_;refine aA 1 ?_;refine aA 2 ?_;refine aA 3 ?_;refine aA 4 ?_;refine aA 7 ?_;refine aA 8 ?_;refine aA 11 ?_;refine aA 12 ?_;refine aA 13 ?_;refine aA 14 ?_;refine aA 15 ?_;refine aA 16 ?_;refine aA 17 ?_;refine bK 5 (λK hK=>?_);go_simp;refine(HTA _ (Z4.trans ((qH (aN _ _)).mono hws))).mono ?_;rintro e w2 ⟨rfl,aJ⟩;dsimp only
  have JY:aj ws ws w2:=(qH (aN _ _)).trans aJ;refine bF hK (by exact Ll _ JY) (λbg=>?_);clear hK K aJ;refine aA 6 ?_;refine aA 9 ?_;refine aA 10 ?_;refine bK 18 (λK hK=>?_);go_simp;refine(Z6 _ (Z4.trans (JY.mono hws))).mono ?_;rintro e w3 ⟨rfl,aR⟩;dsimp only
  have Wj:aj ws ws w3:=JY.trans (aR.mono JY.size);refine bF hK (by exact Ll _ Wj) (λbg=>?_);clear hK K aR;refine aA 19 ?_;refine aA 20 ?_;refine gI ?_;go_wp2_with fail;go_ret;exact⟨by rw[FB.E];exact Z0 (by simp[JV]),Z4.trans (Wj.mono hws)⟩):R:=h
theorem asR(kd:Int)(Z7:List UInt8)(k0:Int)(Z8:Nat)(iY:xz kd=N (Z7,k0,Z8))(a b:Ex)(S:Nat->Prop)(vl fr az:Int)(nm:List UInt8)(A:Option aK)(na ca:Nat)(w:Y)
  (hS:∀q,S q->q<w.heap.size) (hA:eU w S (.bi ⟨kd,vl,fr,az,nm⟩ a b) (O A na ca)) (hK:Gd w S (.bi ⟨kd,vl,fr,az,nm⟩ a b)) (uM:(fK a).length<=100000000) (hlb:(fK b).length<=100000000):
  aF aa 82 #[aD #[kd,vl,fr,az,nm,O A na ca]] w λe W'=>e=aI (au ⟨(fK (.bi ⟨kd,vl,fr,az,nm⟩ a b)).toArray⟩)/\aj w w W':=by
 obtain⟨g,va',vb',ea,hg,dU,SG,hAb⟩:=hA;injection ea with ea1 ea2 ea3;subst ea1 ea2 ea3;obtain⟨A',n',c',rfl,-⟩:=SG.form;obtain⟨NS,Ep,c'',rfl,-⟩:=hAb.form;have BQ:=hS g hg;have HA:af (∀W,aj w w W->∀l:Nat,aF aa 33 #[gJ a.hd (O A' n' c'),(l:Int)] W λe W'=>e=aI (au ⟨(eQ a l).toArray⟩)/\aj W W W'):=λW hW l=>hK a (by simp[Ex.args]) W A' n' c' hW (SG.keep (λq hq=>hW.block q (hS q hq)) (λq hq=>hq)) l;have HB:af (∀W,aj w w W->∀l:Nat,aF aa 33 #[gJ b.hd (O NS Ep c''),(l:Int)] W λe W'=>e=aI (au ⟨(eQ b l).toArray⟩)/\aj W W W'):=λW hW l=>hK b (by simp[Ex.args]) W NS Ep c'' hW (hAb.keep (λq hq=>hW.block q (hS q hq)) (λq hq=>hq)) l;have HG:=G dU;have Z9:=G (bI (aib iY) (asP iY));have AQ:=G iY;unfold gJ at HA HB;unfold FK at HG;clear dU SG hAb hK hS iY;generalize hha:a.hd=ah at*;generalize hhb:b.hd=bh at*;clear hha hhb;obtain⟨ka,va,fa,ta,ma⟩:=ah;obtain⟨kb,vb,fb,tb,mb⟩:=bh;simp only[o6,wF] at HA HB HG;have aP:=G ((aN w w).alloc (aC _) (ag #[kd,vl,fr,az,nm,O g 2 2] 128));have qV:=G (ai.new w 128 #[kd,vl,fr,az,nm,O g 2 2]);go_enter func82,ntmps82;go_wp2_with fail;refine(Zy _).mono ?_;rintro e' w1 ⟨rfl,aB⟩;have aM:=G (aU aP aB);have tY:=G (qV.below aB aG);have ed:w.heap.size<w1.heap.size:=zT;clear aB aP qV;generalize Hz:(Value.agg Bw)=Py at*;have H5:af (∀k:Nat,k<11->∀w:Y,(KW 274 Py (C D (k:Int))).run aa w= .ok (aD (FU (jd.getD k ([],0,0)))) w):=by show ∀k:Nat,_;rw[<-Hz];exact Zz
 clear Hz;go_wp2_with fail;go_loopw [9] (λiv wr=>∃i:Nat,iv=C D i/\i<=11/\(jd.take i).find? (λo=>o.2.1==kd)=J/\aj w1 w1 wr) (λiv _=>11-(intOf iv).toNat);case atStart=>exact⟨0,rfl,I,rfl,aN _ _⟩
 obtain⟨i,rfl,hi,hf,aH⟩:=hrel;obtain⟨wo,rfl⟩:=dz wr;have bA:=G (aU aM aH);have eP:=aH.size;have hK:=tY.below aH ed;by_cases aO:i<11;case neg=>exfalso;have e1:jd.take i=jd:=o7 (by rw[Px];omega);rw[e1] at hf;have:=AQ;unfold xz at this;rw[hf] at this;cases this
 have k3:decide ((i:Int)<11)=Z:=jO;have D5:=H5 i aO;have FS:=G (ach (show i<jd.length by rw[Px];exact aO) ([],0,0) hf);generalize jd.getD i ([],0,0)=o at*;obtain⟨tx,ok,lv⟩:=o;unfold FU at D5;simp only[] at D5;have oq:=G (aH.alloc eP (ag #[tx,ok,C D (lv:Nat)] 273));cases h1:(ok==kd);case false=>
  have F2:af ((jd.take (i+1)).find? (λo=>o.2.1==kd)=J):=by show _=_;rw[FS.E];simp only[h1];rfl
  have c0:=(hK.alloc (ag #[tx,ok,C D (lv:Nat)] 273)).cell 0;simp only[iH,iX,iI] at c0;clear FS hK hf aH;go_wp2_with fail;exact⟨⟨i+1,bR,I,F2,oq⟩,bW⟩
 have acO:af (xz kd=N (tx,ok,lv)):=by refine aci (k:=i+1) ?_;rw[FS.E];simp only[h1];rfl
 obtain⟨rfl,rfl,rfl⟩:tx=Z7/\ok=k0/\lv=Z8:=by have:=acO.symm.trans AQ;simp only[kH,xL] at this;exact this
 obtain⟨uJ,BO⟩:=Z9;(try simp only[] at uJ BO);have HX:=G (ai.new wo 273 #[tx,ok,C D (lv:Nat)]);have Z4:=G (aU bA ((aN wo wo).alloc (aC _) (ag #[tx,ok,C D (lv:Nat)] 273)));obtain⟨y0,y1,y2,y3,y4,y5⟩:=gW (hK.alloc (ag #[tx,ok,C D (lv:Nat)] 273));obtain⟨⟨e0,e1,e2,e3,e4,e5⟩,e6,e7,e8,e9,CL,Ht⟩:=asQ (HG.below Z4 BQ);have hwo:wo.heap.size<(wo.alloc (ag #[tx,ok,C D (lv:Nat)] 273)).heap.size:=aG;have o0:=HX.cell 0;have o1:=HX.cell 1;have o2:=HX.cell 2;simp only[iH,iX,iI] at o0 o1 o2;clear FS hK hf aH H5;go_upto_region 6 with fail;generalize wo.alloc (ag #[tx,ok,C D (lv:Nat)] 273)=ws at*;have hws:w.heap.size<=ws.heap.size:=I;by_cases Iy:lv=4;case pos=>
  subst Iy;have FB:af (fK (.bi ⟨kd,vl,fr,az,nm⟩ a b)=eQ a 5++ [32]++tx++ [32]++eQ b (4+1)):=by show _=_;simp only[fK,acO.E];rfl
  have HTA:=G (λW hW=>HA W hW 5);have Z6:af (∀W,aj w w W->aF aa 33 #[aD #[kb,vb,fb,tb,mb,O NS Ep c''],C D (IntKind.i64.wrap (4+1))] W λe W'=>e=aI (au ⟨(eQ b (4+1)).toArray⟩)/\aj W W W'):=λW hW=>by have:=HB W hW (4+1);exact this
  have CY:=JX a 5;have htb:=JX b (4+1);rw[show((5:Nat):Int)=5 from rfl] at HTA;generalize qY:eQ a 5=sa at*;generalize kZ:eQ b (4+1)=sb at*;clear qY kZ;have n0:¬9223372036854775807<sa.length+1:=I;have n1:¬9223372036854775807<sa.length+1+tx.length:=I;have n2:¬9223372036854775807<sa.length+1+tx.length+1:=I;have n3:¬9223372036854775807<sa.length+1+tx.length+1+sb.length:=I;have o2':ws.cell? ⟨wo,2,J⟩=N (C D 4):=o2;clear o2;have o2:=o2';clear o2';have Ll:af (∀y,aj ws ws y->(λy:Y=>aj ws ws y/\y.cell? ⟨w,5,J⟩=N (O g 2 2)/\y.cell? ⟨wo,0,J⟩=N (au ⟨tx.toArray⟩)/\y.cell? ⟨wo,2,J⟩=N (C D (4))/\y.cell? ⟨g,0,J⟩=N (C D ka)/\y.cell? ⟨g,1,J⟩=N (C D va)/\y.cell? ⟨g,2,J⟩=N (C D fa)/\y.cell? ⟨g,3,J⟩=N (C D ta)/\y.cell? ⟨g,4,J⟩=N (au ⟨ma.toArray⟩)/\y.cell? ⟨g,5,J⟩=N (O A' n' c')/\y.cell? ⟨g,6,J⟩=N (C D kb)/\y.cell? ⟨g,7,J⟩=N (C D vb)/\y.cell? ⟨g,8,J⟩=N (C D fb)/\y.cell? ⟨g,9,J⟩=N (C D tb)/\y.cell? ⟨g,10,J⟩=N (au ⟨mb.toArray⟩)/\y.cell? ⟨g,11,J⟩=N (O NS Ep c'')) y):=λy hy=>⟨hy,(hy.cell (p:=⟨w,5,J⟩) (by show w.heap.size<ws.heap.size;omega)).trans y5,(hy.cell (p:=⟨wo,0,J⟩) YG).trans o0,(hy.cell (p:=⟨wo,2,J⟩) YG).trans o2,(hy.cell (p:=⟨g,0,J⟩) rY).trans e0,(hy.cell (p:=⟨g,1,J⟩) rY).trans e1,(hy.cell (p:=⟨g,2,J⟩) rY).trans e2,(hy.cell (p:=⟨g,3,J⟩) rY).trans e3,(hy.cell (p:=⟨g,4,J⟩) rY).trans e4,(hy.cell (p:=⟨g,5,J⟩) rY).trans e5,(hy.cell (p:=⟨g,6,J⟩) rY).trans e6,(hy.cell (p:=⟨g,7,J⟩) rY).trans e7,(hy.cell (p:=⟨g,8,J⟩) rY).trans e8,(hy.cell (p:=⟨g,9,J⟩) rY).trans e9,(hy.cell (p:=⟨g,10,J⟩) rY).trans CL,(hy.cell (p:=⟨g,11,J⟩) rY).trans Ht⟩;go_upto_region 8 with fail;refine iA (S:=λy:Y=>aj ws ws y/\y.cell? ⟨w,5,J⟩=N (O g 2 2)/\y.cell? ⟨wo,0,J⟩=N (au ⟨tx.toArray⟩)/\y.cell? ⟨wo,2,J⟩=N (C D (4))/\y.cell? ⟨g,0,J⟩=N (C D ka)/\y.cell? ⟨g,1,J⟩=N (C D va)/\y.cell? ⟨g,2,J⟩=N (C D fa)/\y.cell? ⟨g,3,J⟩=N (C D ta)/\y.cell? ⟨g,4,J⟩=N (au ⟨ma.toArray⟩)/\y.cell? ⟨g,5,J⟩=N (O A' n' c')/\y.cell? ⟨g,6,J⟩=N (C D kb)/\y.cell? ⟨g,7,J⟩=N (C D vb)/\y.cell? ⟨g,8,J⟩=N (C D fb)/\y.cell? ⟨g,9,J⟩=N (C D tb)/\y.cell? ⟨g,10,J⟩=N (au ⟨mb.toArray⟩)/\y.cell? ⟨g,11,J⟩=N (O NS Ep c'')) dh (Ll _ (qH (aN _ _))) (λbg=>?_);exact aij
 have FB:af (fK (.bi ⟨kd,vl,fr,az,nm⟩ a b)=eQ a lv++ [32]++tx++ [32]++eQ b (lv+1)):=by show _=_;simp only[fK,acO.E];rw[if_neg Iy];rfl
 have HTA:=G (λW hW=>HA W hW lv);have Z6:af (∀W,aj w w W->aF aa 33 #[aD #[kb,vb,fb,tb,mb,O NS Ep c''],C D (IntKind.i64.wrap ((lv:Int)+1))] W λe W'=>e=aI (au ⟨(eQ b (lv+1)).toArray⟩)/\aj W W W'):=λW hW=>by have:=HB W hW (lv+1);exact agR
 have CY:=JX a lv;have htb:=JX b (lv+1);skip;generalize qY:eQ a lv=sa at*;generalize kZ:eQ b (lv+1)=sb at*;clear qY kZ;have n0:¬9223372036854775807<sa.length+1:=I;have n1:¬9223372036854775807<sa.length+1+tx.length:=I;have n2:¬9223372036854775807<sa.length+1+tx.length+1:=I;have n3:¬9223372036854775807<sa.length+1+tx.length+1+sb.length:=I;have q4:((lv:Int)==4)=X:=iO;have hl63: -9223372036854775808<=(lv:Int)/\(lv:Int)<=100:=I;have Ll:af (∀y,aj ws ws y->(λy:Y=>aj ws ws y/\y.cell? ⟨w,5,J⟩=N (O g 2 2)/\y.cell? ⟨wo,0,J⟩=N (au ⟨tx.toArray⟩)/\y.cell? ⟨wo,2,J⟩=N (C D ((lv:Nat)))/\y.cell? ⟨g,0,J⟩=N (C D ka)/\y.cell? ⟨g,1,J⟩=N (C D va)/\y.cell? ⟨g,2,J⟩=N (C D fa)/\y.cell? ⟨g,3,J⟩=N (C D ta)/\y.cell? ⟨g,4,J⟩=N (au ⟨ma.toArray⟩)/\y.cell? ⟨g,5,J⟩=N (O A' n' c')/\y.cell? ⟨g,6,J⟩=N (C D kb)/\y.cell? ⟨g,7,J⟩=N (C D vb)/\y.cell? ⟨g,8,J⟩=N (C D fb)/\y.cell? ⟨g,9,J⟩=N (C D tb)/\y.cell? ⟨g,10,J⟩=N (au ⟨mb.toArray⟩)/\y.cell? ⟨g,11,J⟩=N (O NS Ep c'')) y):=λy hy=>⟨hy,(hy.cell (p:=⟨w,5,J⟩) (by show w.heap.size<ws.heap.size;omega)).trans y5,(hy.cell (p:=⟨wo,0,J⟩) YG).trans o0,(hy.cell (p:=⟨wo,2,J⟩) YG).trans o2,(hy.cell (p:=⟨g,0,J⟩) rY).trans e0,(hy.cell (p:=⟨g,1,J⟩) rY).trans e1,(hy.cell (p:=⟨g,2,J⟩) rY).trans e2,(hy.cell (p:=⟨g,3,J⟩) rY).trans e3,(hy.cell (p:=⟨g,4,J⟩) rY).trans e4,(hy.cell (p:=⟨g,5,J⟩) rY).trans e5,(hy.cell (p:=⟨g,6,J⟩) rY).trans e6,(hy.cell (p:=⟨g,7,J⟩) rY).trans e7,(hy.cell (p:=⟨g,8,J⟩) rY).trans e8,(hy.cell (p:=⟨g,9,J⟩) rY).trans e9,(hy.cell (p:=⟨g,10,J⟩) rY).trans CL,(hy.cell (p:=⟨g,11,J⟩) rY).trans Ht⟩;go_upto_region 8 with fail;refine iA (S:=λy:Y=>aj ws ws y/\y.cell? ⟨w,5,J⟩=N (O g 2 2)/\y.cell? ⟨wo,0,J⟩=N (au ⟨tx.toArray⟩)/\y.cell? ⟨wo,2,J⟩=N (C D ((lv:Nat)))/\y.cell? ⟨g,0,J⟩=N (C D ka)/\y.cell? ⟨g,1,J⟩=N (C D va)/\y.cell? ⟨g,2,J⟩=N (C D fa)/\y.cell? ⟨g,3,J⟩=N (C D ta)/\y.cell? ⟨g,4,J⟩=N (au ⟨ma.toArray⟩)/\y.cell? ⟨g,5,J⟩=N (O A' n' c')/\y.cell? ⟨g,6,J⟩=N (C D kb)/\y.cell? ⟨g,7,J⟩=N (C D vb)/\y.cell? ⟨g,8,J⟩=N (C D fb)/\y.cell? ⟨g,9,J⟩=N (C D tb)/\y.cell? ⟨g,10,J⟩=N (au ⟨mb.toArray⟩)/\y.cell? ⟨g,11,J⟩=N (O NS Ep c'')) dh (Ll _ (qH (aN _ _))) (λbg=>?_);exact aij
def aik(x:Ex):Prop:=eG x=Z->x.sz<=1000000->∀(w:Y) (S:Nat->Prop) (A:Option aK) (na ca:Nat),Env w->eU w S x (O A na ca)->(∀q,S q->q<w.heap.size)->
 aF aa 82 #[gJ x.hd (O A na ca)] w λe W'=>e=aI (au ⟨(fK x).toArray⟩)/\aj w w W'
theorem ail{S:Nat->Prop}(hE:Env w)(hS:∀q,S q->q<w.heap.size)(aX:∀y∈x.args,eG y=Z/\y.sz<=1000000)(ih:∀y∈x.args,aik y):Gd w S x:=by intro y hy W A' n' c' hW hA l;have h1:=PW y (aX y hy).1;have h2:=(aX y hy).2;refine aia y A' n' c' W I ?_ W (aN _ _) l;intro W2 hW2;exact ih y hy (aX y hy).1 (aX y hy).2 W2 S A' n' c' ((hE.after hW).after hW2) (hA.keep (λq hq=>hW2.block q (by have:=hS q hq;have:=hW.size;omega)) (λq hq=>hq)) (λq hq=>by have:=hS q hq;have:=hW.size;have:=hW2.size;omega)
theorem asS(k:Int):1<=bY k:=by
 unfold bY;split;·rename_i o h;have h2:=xD.1 (show jd.all (λo=>decide (1<=o.2.2))=Z by decide) o (RU h);simpa using h2
 split;·omega
 split;·omega
 split<;>omega
theorem SH(x:Ex):eQ x 0=fK x:=ah9 (by have:=asS x.hd.kind;omega)
theorem asT:∀x:Ex,aik x:=by
 intro x;induction x with
 |lf h=>
  intro ho hs w S A na ca hE hA _;have hk:=PQ ho;obtain⟨a1,a2,b1,b2,c1,c2,_⟩:=Iu ho;obtain⟨kd,vl,fr,az,nm⟩:=h;simp only[Ex.hd] at hk a1 a2 b1 b2 c1 c2 |-;unfold gJ;rcases hk with rfl|rfl|rfl|rfl;·exact asD vl fr az nm A na ca w hE a1 a2
  ·exact asE vl fr az nm A na ca w hE
  ·exact asF vl fr az nm A na ca w hE b1 b2 c1 c2
  exact asG vl fr az nm A na ca w hE b1 b2 c1 c2
 |un h a ih=>
  intro ho hs w S A na ca hE hA hS;simp only[eG,bq] at ho;simp only[Ex.sz] at hs;have hk:=ND ho.1;obtain⟨a1,a2,_⟩:=Iu ho.1;have hl:=PW a ho.2;have hK:Gd w S (.un h a):=ail hE hS (by intro y hy;simp only[Ex.args,jZ,nJ,or_false] at hy;subst hy;exact⟨ho.2,I⟩) (by intro y hy;simp only[Ex.args,jZ,nJ,or_false] at hy;subst hy;exact ih);obtain⟨kd,vl,fr,az,nm⟩:=h;simp only[Ex.hd] at hk a1 a2 |-;unfold gJ;rcases hk with rfl|rfl|rfl|rfl|rfl;·exact asH a S vl fr az nm A na ca w hE hS hA hK I
  ·have:=asJ a S vl fr az nm A na ca w hE hS hA hK I;rw[SH] at this;exact this
  ·have:=asK a S vl fr az nm A na ca w hE hS hA hK I;rw[SH] at this;exact this
  ·exact asI a S vl fr az nm A na ca w hE hS hA hK I
  have:=asL a S vl fr az nm A na ca w hE hS hA hK I a1 a2;exact this
 |bi h a b qg vg=>
  intro ho hs w S A na ca hE hA hS;simp only[eG,bq] at ho;simp only[Ex.sz] at hs;have hk:=NF ho.1;have uM:=PW a ho.2.1;have hlb:=PW b ho.2.2;have hK:Gd w S (.bi h a b):=ail hE hS (by intro y hy;simp only[Ex.args,jZ,nJ,or_false] at hy;rcases hy with rfl|rfl;exact⟨ho.2.1,I⟩;exact⟨ho.2.2,I⟩) (by intro y hy;simp only[Ex.args,jZ,nJ,or_false] at hy;rcases hy with rfl|rfl;exact qg;exact vg);obtain⟨kd,vl,fr,az,nm⟩:=h;simp only[Ex.hd] at hk |-;unfold gJ;cases iY:xz kd with
  |some o=>obtain⟨Z7,k0,Z8⟩:=o;exact asR kd Z7 k0 Z8 iY a b S vl fr az nm A na ca w hS hA hK I I
  |none=>
   have zx:kd=10\/kd=11:=by have h7:kd=7\/kd=8\/kd=9\/kd=10\/kd=11\/kd=12\/kd=13\/kd=14\/kd=15\/kd=16\/kd=17\/kd=18\/kd=19:=I;rcases h7 with rfl|rfl|rfl|rfl|rfl|rfl|rfl|rfl|rfl|rfl|rfl|rfl|rfl<;>first|exact .inl rfl|exact .inr rfl|(exact absurd iY aL)
   rcases zx with rfl|rfl;·have:=asM a b S vl fr az nm A na ca w hE hS hA hK I I;rw[SH,SH] at this;exact this
   have:=asN a b S vl fr az nm A na ca w hE hS hA hK I I;rw[SH,SH] at this;exact this
theorem asU(x:Ex)(aX:eG x=Z)(hs:x.sz<=1000000)(w:Y)(S:Nat->Prop)(A:Option aK)(na ca:Nat)(hE:Env w)(hA:eU w S x (O A na ca))(hS:∀q,S q->q<w.heap.size)(l:Nat):
  aF aa 33 #[gJ x.hd (O A na ca),(l:Int)] w λe W'=>e=aI (au ⟨(eQ x l).toArray⟩)/\aj w w W':=by have h1:=PW x aX;refine aia x A na ca w I ?_ w (aN _ _) l;intro W hW;exact asT x aX hs W S A na ca (hE.after hW) (hA.keep (λq hq=>hW.block q (hS q hq)) (λq hq=>hq)) (λq hq=>by have:=hS q hq;have:=hW.size;omega)
section
open Go.Shelf
def SI:Go.Shelf.Ren:=⟨fun|166=>31|240=>80|276=>152|169=>35|n=>n,fun|0=>0|3=>3|4=>4|5=>5|9=>9|20=>20|37=>116|70=>115|72=>118|75=>123|80=>133|164=>269|127=>195|n=>n,fun|n=>n⟩
theorem asV:Go.Proofs.Lays.n166 aa SI:= {
 mixed:=by kernel_rfl
 f166:=func31.trans (congrArg N dh)
 f240:=func80.trans (congrArg N dh)
 f276:=func152.trans (congrArg N dh)
 t0:=underlying0
 a0:=isAgg0
 z0:=sizeOf0
 v0:=zeroValue0
 t3:=underlying3
 a3:=isAgg3
 z3:=sizeOf3
 v3:=zeroValue3
 t4:=underlying4
 a4:=isAgg4
 z4:=sizeOf4
 v4:=zeroValue4
 t9:=underlying9
 a9:=isAgg9
 z9:=sizeOf9
 v9:=zeroValue9
 t20:=underlying20
 a20:=isAgg20
 z20:=sizeOf20
 v20:=zeroValue20
 t37:=underlying116
 a37:=isAgg116
 z37:=sizeOf116
 v37:=zeroValue116
 t70:=underlying115
 a70:=isAgg115
 z70:=sizeOf115
 v70:=zeroValue115
 t72:=underlying118
 a72:=isAgg118
 z72:=sizeOf118
 v72:=zeroValue118
 t75:=underlying123
 a75:=isAgg123
 z75:=sizeOf123
 v75:=zeroValue123
 t164:=underlying269
 a164:=isAgg269
 z164:=sizeOf269
 v164:=zeroValue269}
theorem asW:Go.Proofs.Lays.n169 aa SI:= {
 mixed:=by kernel_rfl
 f169:=func35.trans (congrArg N dh)
 t0:=underlying0
 a0:=isAgg0
 z0:=sizeOf0
 v0:=zeroValue0
 t3:=underlying3
 a3:=isAgg3
 z3:=sizeOf3
 v3:=zeroValue3
 t9:=underlying9
 a9:=isAgg9
 z9:=sizeOf9
 v9:=zeroValue9
 t37:=underlying116
 a37:=isAgg116
 z37:=sizeOf116
 v37:=zeroValue116
 t70:=underlying115
 a70:=isAgg115
 z70:=sizeOf115
 v70:=zeroValue115
 t72:=underlying118
 a72:=isAgg118
 z72:=sizeOf118
 v72:=zeroValue118
 t127:=underlying195
 a127:=isAgg195
 z127:=sizeOf195
 v127:=zeroValue195}
theorem aim:Builder.Extra aa SI:= {
 sizeBuilder:=by kernel_rfl
 liesBuilder:=by kernel_rfl
 t5:=underlying5
 a5:=isAgg5
 z5:=sizeOf5
 v5:=zeroValue5
 infoByte:=by kernel_rfl
 cellsByte:=by kernel_rfl
 sizeByte:=by kernel_rfl
 neB5:=by decide}
end
def zy(b:Nat)(T:List UInt8)(w:Y):Prop:=Lib.IsBuilderF 118 5 b b (Wm T) w
def Kpt(b:Nat)(w w':Y):Prop:=Lib.OthersKept 5 (N b) w w'
theorem zy.below{T:List UInt8}(h:zy b T w)(hb:aj w w w'):zy b T w':=by
 have key:∀p,Lib.BuilderAtF 118 5 b b p (Wm T) w->Lib.BuilderAtF 118 5 b b p (Wm T) w':=by intro p hp;have hl:=hp.lt;obtain⟨h1,v,h2,h3,h4⟩:=hp;exact⟨h1,v,(hb.block b hl).trans h2,h3.kept (row:=J) (Vb hb J) (by cases v.ownBlock<;>simp),h4⟩
 exact h.imp (key _) (key _)
theorem zy.fresh(w:Y):zy w [] (w.alloc (ag #[aQ J,O J 0 0] 118)):=Lib.IsBuilderF.of (Lib.fresh_isBuilder _ _ _)
theorem zy.at_{T:List UInt8}{p:ak}{cs:List ak}(h:Lib.BuilderAtF 118 5 b b (aQ b) cs w)(e:cs=Wm T):zy b T w:=by subst e;exact Or.inr h
theorem ain{t:bM}{cs:Array ak}(h:ai w g t cs)(hk:Kpt b w w')(hg:g≠b)(ht:t≠5):ai w' g t cs:=hk g _ h (λe=>hg RA) (λc fz e=>ht RA)
theorem PX(b:Nat)(T s:List UInt8)(w:Y)(h:zy b T w)(hl:T.length+s.length<=140737488355328)(hb:b<=w.heap.size):
  aF aa 31 #[aQ b,s] w λe w'=>e=aI (bz #[s.length,.nilIface])/\zy b (T++s) w'/\aj b w w'/\Kpt b w w':=by refine(Any.Builder_WriteString_k asV aim b b (Wm T) ⟨s.toArray⟩ w h (by rw[Lib.byteCells_length,MX];exact hl) hb).mono ?_;rintro e w' ⟨rfl,h1,h2,h3⟩;exact⟨by rw[MX],zy.at_ (p:= .nilIface) h1 (by rw[Lib.byteCells_append,Lib.strCells_eq]),h2,h3⟩
theorem asX(b:Nat)(T:List UInt8)(w:Y)(h:zy b T w)(hb:b<=w.heap.size):
  aF aa 35 #[aQ b] w λe w'=>e=aI T/\aj b w w':=by refine(Any.Builder_String_any_f asW aim b b T w h hb).mono ?_;rintro e w' ⟨rfl,_,h2⟩;exact⟨rfl,h2⟩
def asY:Go.Shelf.Ren:=⟨fun|170=>34|n=>SI.f n,SI.t,SI.g⟩
theorem asZ:Go.Proofs.Lays.n170 aa asY:= {
 mixed:=by kernel_rfl
 f170:=func34.trans (congrArg N dh)
 t0:=underlying0
 a0:=isAgg0
 z0:=sizeOf0
 v0:=zeroValue0
 t3:=underlying3
 a3:=isAgg3
 z3:=sizeOf3
 v3:=zeroValue3
 t37:=underlying116
 a37:=isAgg116
 z37:=sizeOf116
 v37:=zeroValue116
 t70:=underlying115
 a70:=isAgg115
 z70:=sizeOf115
 v70:=zeroValue115
 t72:=underlying118
 a72:=isAgg118
 z72:=sizeOf118
 v72:=zeroValue118}
theorem as0(b:Nat)(T:List UInt8)(w:Y)(h:zy b T w):
  aF aa 34 #[aQ b] w λe w'=>e=aI (C D (T.length:Int))/\w=w':=by refine(Any.Builder_Len_f asZ b b (Wm T) w h).mono ?_;rintro e w' ⟨rfl,rfl⟩;exact⟨by rw[Lib.byteCells_length],rfl⟩
def BR(w1:Y)(b g:Nat)(t:bM)(cs:Array ak)(T:List UInt8)(w:Y):Prop:=ai w g t cs/\zy b T w/\aj b w1 w/\b<g
section
variable{w1 w w':Y}{b g:Nat}{t:bM}{cs:Array ak}{T T':List UInt8}
theorem BR.step(h:BR w1 b g t cs T w)(hb:aj w w w')(hbs:b<=w.heap.size):BR w1 b g t cs T w':=⟨h.1.below hb h.1.lt,h.2.1.below hb,h.2.2.1.trans (hb.mono hbs),h.2.2.2⟩
theorem BR.size(h:BR w1 b g t cs T w):b<=w.heap.size:=by have:=h.1.lt;have:=h.2.2.2;omega
theorem BR.go(h:BR w1 b g t cs T w)(hb:aj w w w'):BR w1 b g t cs T w':=h.step hb h.size
theorem BR.wrote(h:BR w1 b g t cs T w)(h1:zy b T' w')(h2:aj b w w')(h3:Kpt b w w')(ht:t≠5):BR w1 b g t cs T' w':=⟨ain h.1 h3 (by have:=h.2.2.2;omega) ht,h1,h.2.2.1.trans h2,h.2.2.2⟩
end
theorem aio[Inhabited α]{l:List α}{f:α->List UInt8}(h:k<l.length):(l.take (k+1)).flatMap f=(l.take k).flatMap f++f (l.getD k ay):=by rw[sD h,List.flatMap_append];simp[dO,h]
theorem aip{f:α->List UInt8}{L:Nat}:∀ {l:List α},(∀x∈l,(f x).length<=L)->(l.flatMap f).length<=l.length*L:=by
 intro l;induction l with
 |nil=>intro _;simp
 |cons a r ih=>intro h;have h1:=h a aG;have h2:=ih (λx hx=>h x (F8 _ hx));rw[Hq,eB,iP,Nat.succ_mul];omega
theorem acP{f:α->List UInt8}{L:Nat}{l:List α}(h:∀x∈l,(f x).length<=L):((l.take k).flatMap f).length<=l.length*L:=by have h1:=aip (l:=l.take k) (f:=f) (L:=L) (λx hx=>h x (List.mem_of_mem_take hx));have h2:(l.take k).length<=l.length:=OW;exact ja h1 (Nat.mul_le_mul_right L h2)
theorem Wn{s:cZ}(h:o5 s=Z):eG s.expr=Z/\((s.kind=1/\s.name.length<=16)\/s.kind=2\/(s.kind=3/\1<=s.dM/\s.dM<=99999)):=by
 unfold o5 at h;simp only[bq] at h;refine⟨h.2,?_⟩;have h1:=h.1.1;by_cases g1:s.kind=1;·rw[if_pos g1] at h1;simp only[bq] at h1;left;refine⟨g1,?_⟩;have h6:=h1.1;exact aie
 by_cases g2:s.kind=2;·exact .inr (.inl g2)
 by_cases g3:s.kind=3;·rw[if_neg g1,if_neg g2,if_pos g3] at h1;simp only[bq] at h1;have:=h1.2;unfold iw at this;simp only[bq,decide_eq_true_eq] at this;exact .inr (.inr ⟨g3,this⟩)
 rw[if_neg g1,if_neg g2,if_neg g3] at h1;simp at h1
theorem aiq{s:cZ}(h:o5 s=Z)(hs:s.expr.sz<=1000000):(om s).length<=90000000:=by
 obtain⟨h1,h2⟩:=Wn h;have h3:=PW s.expr h1;have h4:=JX s.expr 0;unfold om;rcases h2 with⟨k,h5⟩|k|⟨k,h5,h6⟩;·rw[if_pos k];simp only[eB,qB,iP,pV];omega
 ·rw[if_neg I,if_pos k];simp only[eB,qC,iP,pV];omega
 have:=Ir (x:=s.dM) I I;rw[if_neg I,if_neg I];simp only[eB,qD,iP,pV];omega
theorem NU(h:jK r=Z):r.name.length<=16/\r.stmts.length<=30/\1<=r.az/\r.az<=99999/\∀s∈r.stmts,o5 s=Z:=by unfold jK at h;simp only[bq,decide_eq_true_eq] at h;obtain⟨⟨⟨h1,h2⟩,h3⟩,h4⟩:=h;have h6:=h1;unfold qf at h6;unfold iw at h3;simp only[bq,decide_eq_true_eq] at h3;refine⟨?_,h2,h3.1,h3.2,λs hs=>xD.1 h4 s hs⟩;exact aid
theorem air(h:r.name.length<=16):(Fs r).length<=100:=by unfold Fs;cases r.pair<;>simp only[eB,uG,tF,qb,sF,iP,pV]<;>simp<;>omega
theorem ais(h:1<=r.az/\r.az<=99999):(O8 r).length<=100:=by have:=Ir (x:=r.az) I I;unfold O8;simp only[eB,kU,iP,pV];omega
theorem ait(h:jK r=Z)(hl:zu r):(Hm r).length<=3000000000:=by obtain⟨h1,h2,h3,h4,h5⟩:=NU h;have e1:=air h1;have e2:=ais ⟨h3,h4⟩;have e3:=aip (l:=r.stmts) (f:=om) (L:=90000000) (λs hs=>aiq (h5 s hs) (hl.2.2 s hs).2.2);unfold Hm;simp only[eB];omega
theorem zt.nine{S:Nat->Prop}{ss:List cZ}{A:Option aK}{c:Nat}(h:zt w S ss A n c)(hi:i<n):∃g A' n' c',A=N ⟨g,0,J⟩/\S g/\
  (
    w.cell? ⟨g,i*9,J⟩=N (C D (ss.getD i ay).kind)/\w.cell? ⟨g,i*9+1,J⟩=N (C D (ss.getD i ay).dM)/\w.cell? ⟨g,i*9+2,J⟩=N (au ⟨(ss.getD i ay).name.toArray⟩)/\
    w.cell? ⟨g,i*9+3,J⟩=N (C D (ss.getD i ay).expr.hd.kind)/\w.cell? ⟨g,i*9+4,J⟩=N (C D (ss.getD i ay).expr.hd.value)/\w.cell? ⟨g,i*9+5,J⟩=N (C D (ss.getD i ay).expr.hd.from_)/\w.cell? ⟨g,i*9+6,J⟩=N (C D (ss.getD i ay).expr.hd.az)/\w.cell? ⟨g,i*9+7,J⟩=N (au ⟨(ss.getD i ay).expr.hd.name.toArray⟩)/\w.cell? ⟨g,i*9+8,J⟩=N (O A' n' c'))/\
  eU w S (ss.getD i ay).expr (O A' n' c'):=by obtain⟨g,A',n',c',h1,h2,h3,h4⟩:=h.2.2 i hi;exact⟨g,A',n',c',h1,h2,⟨h3 0 I,h3 1 I,h3 2 I,h3 3 I,h3 4 I,h3 5 I,h3 6 I,h3 7 I,h3 8 I⟩,h4⟩
def aaa(p:List di):ak:=if(Fv p).length<=8000 then bz #[au ⟨(Fv p).toArray⟩,C D 0] else bz #[au ⟨#[]⟩,C D 6]
theorem acQ(h:R:=by rw[<-AR.E] at HW;skip;go_wp2_with fail;refine HW.E.mono ?_;rintro e w3 ⟨rfl,kg,gM,dF⟩;have rM:=G (vJ.E.wrote kg gM dF aL);have fD:=G (ain bO.E dF (by have:=vJ.E.2.2.2;omega) aL);clear kg gM dF HW AR y0 y1 y2 y3 y4 y5 y6 y7 y8;obtain⟨_,_,_,y3,y4,y5,y6,y7,y8⟩:=F4 fD.E;have yI:=G (Gf.E w3 rM.E.2.2.1);have hte:=uL.E;generalize qY:eQ s.expr 0=tx at*;clear qY;have n2:¬9223372036854775807<tx.length+2:=I;go_wp2_with fail;refine yI.E.mono ?_;rintro e w4 ⟨rfl,bu⟩;have rJ:=G (rM.E.go bu);clear bu yI;have AR:af ((⟨tx.toArray⟩++⟨#[59,10]⟩:ByteArray)=⟨(tx++ [59,10]).toArray⟩):=anT tx [59,10];have HW:=G (PX b _ (tx++ [59,10]) w4 rJ.E.2.1 Yu rJ.E.size);rw[<-AR.E] at HW;go_wp2_with fail;refine HW.E.mono ?_;rintro e w5 ⟨rfl,kg,gM,dF⟩;have SK:=G (rJ.E.wrote kg gM dF aL);clear kg gM dF HW AR;go_wp2_with fail;refine⟨⟨j+1,bR,I,?_⟩,bW⟩;rw[U6.E,Yv.E];have h5:=SK.E;simp only[xw] at h5 |-;exact h5):R:=h
theorem aiu(h:R:=by
  clear rM;obtain⟨j,rfl,hj,hts⟩:=hrel;obtain⟨wq,rfl⟩:=dz wr;have HS:=G hts;have hbq:=hts.size;have hgq:=hts.1.lt;clear hts;have HWQ:af (aj w.heap.size w wq):=aM.E.trans (HS.E.2.2.1.mono hwb);by_cases vC:j<n';case neg=>
   have k4:decide ((j:Int)<(n':Int))=X:=fI;have eT:(ss.take j).flatMap om=ss.flatMap om:=by rw[o7 (by rw[<-PY.E];omega)]
   have hsl:=Lm.E j;rw[eT] at HS hsl;clear eT;have x3:wq.cell? ⟨wo.heap.size,3,J⟩=N (C D az):=HS.E.1.cell 3;have wP:=G (SC az wq I I (HE.E.after HWQ.E));have rP:=Ir (x:=az) I I;have n0:¬9223372036854775807<4+(iG az).length:=I;have n1:¬9223372036854775807<4+(iG az).length+4:=I;have AR:af ((⟨#[9,116,111,32]⟩++⟨(iG az).toArray⟩++⟨#[59,10,125,10]⟩:ByteArray)=⟨(O8 r).toArray⟩):=by show _=_;rw[BS.E];apply KQ;simp[JV,kU]
   go_wp2_with fail;refine wP.E.mono ?_;rintro e w4 ⟨rfl,bu⟩;have rJ:=G (HS.E.go bu);clear bu;have HW:=G (PX b _ (O8 r) w4 rJ.E.2.1 (by have:=HTI.E;have:=HHL.E;have:=HPM.E;have:=C8.E;simp only[eB];omega) rJ.E.size);rw[<-AR.E] at HW;go_wp2_with fail;refine HW.E.mono ?_;rintro e w5 ⟨rfl,kg,gM,dF⟩;have SK:=G (rJ.E.wrote kg gM dF aL);clear kg gM dF HW AR;go_wp2_with fail;refine⟨⟨i+1,bR,I,?_,SK.E.2.2.1,by have:=SK.E.1.lt;have:=SK.E.2.2.2;omega⟩,bW⟩;rw[PZ.E,as1.E];have h5:=SK.E.2.1;simp only[xw] at h5 |-;exact h5
  case pos=>
   have b4:(j:Int)<(n':Int):=I;have oN:j<ss.length:=by rw[<-PY.E];exact vC
   have acR:=HS.E.2.2.1;have BL:=gP.E.keep (w':=wq) (S':=S) (λq hq=>(acR.block q Js).trans (bA.E.block q Js).symm) (λq hq=>hq);obtain⟨gs,A2,n2,c2,Lp,hgs,⟨d0,d1,d2,d3,d4,d5,d6,d7,d8⟩,kY⟩:=BL.nine vC;subst Lp;have dK:ss.getD j ay∈ss:=by have:ss.getD j ay=ss[j]:=YX;rw[this];exact rF oN
   obtain⟨Gg,lD⟩:=Wn (JZ.E _ dK);have bV:=(jy.E _ dK).2.2;have U6:=G (aio (f:=om) oN);have fq:=PW _ Gg;have yF:=JX (ss.getD j ay).expr 0;have uL:af ((eQ (ss.getD j ay).expr 0).length<=1000000000):=by show _<=_;omega
   have vZ:af ((T0++Fs r++(ss.take j).flatMap om++om (ss.getD j ay)).length<=140737488355328):=by show _<=_;have:=HTI.E;have:=HHL.E;have:=HPM.E;have:=Lm.E j;have:=Lr.E _ dK;simp only[eB];omega
   have Gf:af (∀W,aj b w1 W->aF aa 33 #[gJ (ss.getD j ay).expr.hd (O A2 n2 c2),C D ((0:Nat):Int)] W λe W'=>e=aI (au ⟨(eQ (ss.getD j ay).expr 0).toArray⟩)/\aj W.heap.size W W'):=λW hW=>asU _ Gg bV W S A2 n2 c2 (HE.E.after (aM.E.trans (hW.mono hwb))) (kY.keep (λq hq=>(hW.block q Js).trans (acR.block q Js).symm) (λq hq=>hq)) (λq hq=>by have:=jc.E q hq;have:=hW.size;omega) 0;have HEW:af (∀W,aj b w1 W->Env W):=λW hW=>HE.E.after (aM.E.trans (hW.mono hwb));have fu:((0:Nat):Int)=0:=rfl;rw[fu] at Gf;unfold gJ at Gf;clear BL dK oN kY Gg bV fq yF acR fu;generalize Wo:ss.getD j ay=s at*;clear Wo;have Ls:af ((s.kind=1->om s=([9]++qB++ [32]++s.name++ [32,61,32])++(eQ s.expr 0++ [59,10]))/\(s.kind=2->om s=([9]++qC++ [32])++(eQ s.expr 0++ [59,10]))/\(s.kind=3->om s=([9]++qD++ [32]++iG s.dM++ [32])++(eQ s.expr 0++ [59,10]))):=by
    refine⟨λh=>?_,λh=>?_,λh=>?_⟩;·unfold om;rw[if_pos h]
    ·unfold om;rw[if_neg I,if_pos h]
    ·unfold om;rw[if_neg I,if_neg I]
   generalize sM:s.kind=sk at*;generalize iL:s.dM=sa at*;generalize pg:s.name=sn at*;generalize yH:s.expr.hd=eh at*;clear sM iL pg yH;obtain⟨kd,vl,fr,tt,en⟩:=eh;simp only[] at Gf d3 d4 d5 d6 d7;have bO:=G (ai.new wq 130 #[C D sk,C D sa,au ⟨sn.toArray⟩,C D kd,C D vl,C D fr,C D tt,au ⟨en.toArray⟩,O A2 n2 c2]);have vJ:=G (HS.E.go ((aN wq.heap.size wq).alloc (aC _) (ag #[C D sk,C D sa,au ⟨sn.toArray⟩,C D kd,C D vl,C D fr,C D tt,au ⟨en.toArray⟩,O A2 n2 c2] 130)));have hwq:wq.heap.size<(wq.alloc (ag #[C D sk,C D sa,au ⟨sn.toArray⟩,C D kd,C D vl,C D fr,C D tt,au ⟨en.toArray⟩,O A2 n2 c2] 130)).heap.size:=aG;go_upto_region 14 with fail;generalize wq.alloc (ag #[C D sk,C D sa,au ⟨sn.toArray⟩,C D kd,C D vl,C D fr,C D tt,au ⟨en.toArray⟩,O A2 n2 c2] 130)=ws at*;obtain⟨y0,y1,y2,y3,y4,y5,y6,y7,y8⟩:=F4 bO.E;clear d0 d1 d2 d3 d4 d5 d6 d7 d8;rcases lD with⟨hk,ze⟩|hk|⟨hk,hac⟩
   ·subst hk;have n0:¬9223372036854775807<5+sn.length:=I;have n1:¬9223372036854775807<5+sn.length+3:=I;have AR:af ((⟨#[9,108,101,116,32]⟩++⟨sn.toArray⟩++⟨#[32,61,32]⟩:ByteArray)=⟨([9]++qB++ [32]++sn++ [32,61,32]).toArray⟩):=by show _=_;apply KQ;simp[JV,qB]
    have Yv:af (om s=([9]++qB++ [32]++sn++ [32,61,32])++(eQ s.expr 0++ [59,10])):=Ls.E.1 rfl;have HW:=G (PX b _ ([9]++qB++ [32]++sn++ [32,61,32]) ws vJ.E.2.1 Yu vJ.E.size);exact acQ
   ·subst hk;have AR:af ((⟨#[9,114,101,113,117,105,114,101,32]⟩:ByteArray)=⟨([9]++qC++ [32]).toArray⟩):=by show _=_;apply KQ;simp[qC]
    have Yv:af (om s=([9]++qC++ [32])++(eQ s.expr 0++ [59,10])):=Ls.E.2.1 rfl;have HW:=G (PX b _ ([9]++qC++ [32]) ws vJ.E.2.1 Yu vJ.E.size);exact acQ
   ·subst hk;have rP:=Ir (x:=sa) I I;have n0:¬9223372036854775807<6+(iG sa).length:=I;have n1:¬9223372036854775807<6+(iG sa).length+1:=I;have AR:af ((⟨#[9,112,111,115,116,32]⟩++⟨(iG sa).toArray⟩++⟨#[32]⟩:ByteArray)=⟨([9]++qD++ [32]++iG sa++ [32]).toArray⟩):=by show _=_;apply KQ;simp[JV,qD]
    have Yv:af (om s=([9]++qD++ [32]++iG sa++ [32])++(eQ s.expr 0++ [59,10])):=Ls.E.2.2 rfl;go_wp2_with fail;refine(SC sa _ I I (HEW.E _ vJ.E.2.2.1)).mono ?_;rintro e wi ⟨rfl,hbi⟩;have vJ:=G (vJ.E.go hbi);have bO:=G (bO.E.below hbi bO.E.lt);clear hbi;have HW:=G (PX b _ ([9]++qD++ [32]++iG sa++ [32]) wi vJ.E.2.1 Yu vJ.E.size);exact acQ):R:=h
theorem aiv(h:R:=by show _=_;rw[as2.E];apply KQ;simp[JV,uG,tF,qb,sF]):R:=h
theorem as3(p:List di)(aX:jT p=Z)(hp:∀r∈p,zu r)(nC:p.length<=8000)(S:Nat->Prop)(A:Option aK)(na ca:Nat)(w:Y)(hE:Env w)(hA:tZ w S p A na ca)(hS:∀q,S q->q<w.heap.size):
  aF aa 9 #[O A na ca] w λe w'=>e=aI (aaa p)/\aj w.heap.size w w':=by
 have bH:=hA.1;have hV:=ZW p hp S A na ca w hE hA hS I;have aC2:na<=8000:=I;rw[aX] at hV;have HV:=G hV;have gH:=G bH;have HA:=G hA;have jc:=G hS;have HP:=G hp;have HE:=G hE;have dI:af (∀r∈p,jK r=Z):=by unfold jT at aX;simp only[bq] at aX;exact λr hr=>xD.1 aX.1 r hr
 have HTT:af (∀k,((p.take k).flatMap Hm).length<=p.length*3000000000):=λk=>acP (λr hr=>ait (dI.E r hr) (hp r hr));have hpm:p.length*3000000000<=8000*3000000000:=Nat.mul_le_mul_right _ nC;have HPM:=G hpm;clear hA hS hp hE bH hV aX hpm;go_enter func9,ntmps9;go_wp2_with fail;refine HV.E.mono ?_;rintro e w1 ⟨rfl,aB⟩;have ed:=aB.size;have aM:=G aB;clear aB HV;obtain⟨b,hb⟩:∃b,b=w1.heap.size:=⟨_,rfl⟩;have JN:af (zy b [] (w1.alloc (ag #[aQ J,O J 0 0] 118))):=by rw[hb];exact zy.fresh w1
 have J2:af (aj b w1 (w1.alloc (ag #[aQ J,O J 0 0] 118))):=by rw[hb];exact(aN _ _).alloc (aC _) _
 have eH:b<(w1.alloc (ag #[aQ J,O J 0 0] 118)).heap.size:=by rw[hb];simp
 go_upto_region 4 with fail;rw[<-hb];generalize w1.alloc (ag #[aQ J,O J 0 0] 118)=wb at*;have hwb:w.heap.size<=b:=I;clear hb;go_wp2_with fail;go_loopw [15] (λiv wr=>∃i:Nat,iv=C D i/\i<=na/\zy b ((p.take i).flatMap Hm) wr/\aj b w1 wr/\b<wr.heap.size) (λiv _=>na-(intOf iv).toNat);case atStart=>exact⟨0,rfl,I,JN.E,J2.E,eH⟩
 clear JN J2 eH;obtain⟨i,rfl,hi,hbs,aH,sK⟩:=hrel;obtain⟨wo,rfl⟩:=dz wr;have JN:=G hbs;have bA:=G aH;have nQ:=G sK;have AJ:af (aj w.heap.size w wo):=aM.E.trans (aH.mono hwb);clear hbs aH;by_cases aO:i<na;case neg=>
  have k3:decide ((i:Int)<(na:Int))=X:=fI;have eT:(p.take i).flatMap Hm=Fv p:=by rw[o7 Ju];rfl
  rw[eT] at JN;have HL:=G (as0 b _ wo JN.E);have gP:=G (asX b _ wo JN.E I);have Hw:af (aaa p=if(Fv p).length<=8000 then bz #[au ⟨(Fv p).toArray⟩,C D 0] else bz #[au ⟨#[]⟩,C D 6]):=rfl;clear eT;generalize Fv p=T at*;go_wp2_with fail;refine HL.E.mono ?_;rintro e w2 ⟨rfl,rfl⟩;by_cases jG:T.length<=8000;case pos=>have k5:decide ((T.length:Int)>8000)=X:=fI;rw[if_pos jG] at Hw;clear jG;go_wp2_with fail;refine gP.E.mono ?_;rintro e w3 ⟨rfl,aR⟩;have HF:=G (AJ.E.trans (aR.mono hwb));clear aR;go_wp2_with fail;go_ret2;exact⟨by rw[Hw.E];rfl,HF.E⟩
  have k5:decide ((T.length:Int)>8000)=Z:=jO;rw[if_neg jG] at Hw;clear jG;go_wp2_with fail;go_ret2;exact⟨by rw[Hw.E];rfl,AJ.E⟩
 have b3:(i:Int)<(na:Int):=I;have dA:i<p.length:=G9;have kG:=HA.E.keep (w':=wo) (S':=S) (λq hq=>AJ.E.block q (jc.E q hq)) (λq hq=>hq);obtain⟨ga,A',n',c',rfl,F5,a0,a1,a2,a3,fP⟩:=kG.2.2 i aO;have dK:p.getD i ay∈p:=by exact Wd
 have HR:=G (HP.E _ dK);have Er:=G (dI.E _ dK);have H8:=G (NU (dI.E _ dK));have PZ:=G (aio (f:=Hm) dA);have gP:=G fP;have HTI:=G (HTT.E i);have wI:=G (ait (dI.E _ dK) (HP.E _ dK));clear kG dK dA fP;generalize p.getD i ay=r at*;generalize hT0:(p.take i).flatMap Hm=T0 at*;clear hT0;have Ip:n'=r.stmts.length:=gP.E.1;have PY:=G Ip;clear Ip;have as2:af (Fs r=uG++ [32]++r.name++ [32]++tF++ [32]++(if r.pair then qb else sF)++ [32,123,10]):=rfl;have as1:af (Hm r=Fs r++r.stmts.flatMap om++O8 r):=rfl;have BS:af (O8 r= [9]++kU++ [32]++iG r.az++ [59,10,125,10]):=rfl;obtain⟨f1,f2,f3,f4,f5⟩:=H8.E;have JZ:=G f5;have jy:=G HR.E.2.2;clear f5;have Lr:af (∀s∈r.stmts,(om s).length<=90000000):=λs hs=>aiq (JZ.E s hs) (HR.E.2.2 s hs).2.2;have HHL:=G (air f1);have C8:=G (ais ⟨f3,f4⟩);generalize nO:r.name=nm at*;generalize hpr:r.pair=pr at*;generalize Il:r.az=az at*;generalize hss:r.stmts=ss at*;clear nO hpr Il hss;cases pr;case false=>
  have HX:=G (ai.new wo 121 #[au ⟨nm.toArray⟩,ax X,O A' n' c',C D az]);have Es:af (aj wo.heap.size wo (wo.alloc (ag #[au ⟨nm.toArray⟩,ax X,O A' n' c',C D az] 121))):=(aN _ _).alloc (aC _) _;have CZ:af (BR w1 b wo.heap.size 121 #[au ⟨nm.toArray⟩,ax X,O A' n' c',C D az] T0 (wo.alloc (ag #[au ⟨nm.toArray⟩,ax X,O A' n' c',C D az] 121))):=⟨HX.E,JN.E.below Es.E,bA.E.trans (Es.E.mono I),sK⟩;have AR:af ((⟨#[114,117,108,101,32]⟩++⟨nm.toArray⟩++⟨#[32,101,97,99,104,32]⟩++⟨#[101,110,116,105,116,121]⟩++⟨#[32,123,10]⟩:ByteArray)=⟨(Fs r).toArray⟩):=by exact aiv
  have HW:=G (PX b _ (Fs r) _ CZ.E.2.1 aft CZ.E.size);rw[<-AR.E] at HW;have n0:¬9223372036854775807<5+nm.length:=I;have n1:¬9223372036854775807<5+nm.length+6:=I;have n2:¬9223372036854775807<5+nm.length+6+6:=I;have n3:¬9223372036854775807<5+nm.length+6+6+3:=I;go_wp2_with fail;refine HW.E.mono ?_;rintro e w3 ⟨rfl,kg,gM,dF⟩;have rM:=G (CZ.E.wrote kg gM dF aL);clear kg gM dF HW AR n0 n1 n2 n3 HX CZ Es;have x0:w3.cell? ⟨wo.heap.size,0,J⟩=N (au ⟨nm.toArray⟩):=rM.E.1.cell 0;have x1:w3.cell? ⟨wo.heap.size,1,J⟩=N (ax X):=rM.E.1.cell 1;have x2:w3.cell? ⟨wo.heap.size,2,J⟩=N (O A' n' c'):=rM.E.1.cell 2;have x3:w3.cell? ⟨wo.heap.size,3,J⟩=N (C D az):=rM.E.1.cell 3;have acK:n'<=30:=by rw[PY.E];exact f2
  have Lm:af (∀k,((ss.take k).flatMap om).length<=3000000000):=λk=>by have h1:=acP (k:=k) Lr.E;omega
  go_wp2_with fail;clear x0 x1 x2 x3 a0 a1 a2 a3;go_loopw [32] (λiv wr=>∃j:Nat,iv=C D j/\j<=n'/\BR w1 b wo.heap.size 121 #[au ⟨nm.toArray⟩,ax X,O A' n' c',C D az] (T0++Fs r++(ss.take j).flatMap om) wr) (λiv _=>n'-(intOf iv).toNat);case atStart=>exact⟨0,rfl,I,by simpa using rM.E⟩
  exact aiu
 have HX:=G (ai.new wo 121 #[au ⟨nm.toArray⟩,ax Z,O A' n' c',C D az]);have Es:af (aj wo.heap.size wo (wo.alloc (ag #[au ⟨nm.toArray⟩,ax Z,O A' n' c',C D az] 121))):=(aN _ _).alloc (aC _) _;have CZ:af (BR w1 b wo.heap.size 121 #[au ⟨nm.toArray⟩,ax Z,O A' n' c',C D az] T0 (wo.alloc (ag #[au ⟨nm.toArray⟩,ax Z,O A' n' c',C D az] 121))):=⟨HX.E,JN.E.below Es.E,bA.E.trans (Es.E.mono I),sK⟩;have AR:af ((⟨#[114,117,108,101,32]⟩++⟨nm.toArray⟩++⟨#[32,101,97,99,104,32]⟩++⟨#[112,97,105,114]⟩++⟨#[32,123,10]⟩:ByteArray)=⟨(Fs r).toArray⟩):=by exact aiv
 have HW:=G (PX b _ (Fs r) _ CZ.E.2.1 aft CZ.E.size);rw[<-AR.E] at HW;have n0:¬9223372036854775807<5+nm.length:=I;have n1:¬9223372036854775807<5+nm.length+6:=I;have n2:¬9223372036854775807<5+nm.length+6+4:=I;have n3:¬9223372036854775807<5+nm.length+6+4+3:=I;go_wp2_with fail;refine HW.E.mono ?_;rintro e w3 ⟨rfl,kg,gM,dF⟩;have rM:=G (CZ.E.wrote kg gM dF aL);clear kg gM dF HW AR n0 n1 n2 n3 HX CZ Es;have x0:w3.cell? ⟨wo.heap.size,0,J⟩=N (au ⟨nm.toArray⟩):=rM.E.1.cell 0;have x1:w3.cell? ⟨wo.heap.size,1,J⟩=N (ax Z):=rM.E.1.cell 1;have x2:w3.cell? ⟨wo.heap.size,2,J⟩=N (O A' n' c'):=rM.E.1.cell 2;have x3:w3.cell? ⟨wo.heap.size,3,J⟩=N (C D az):=rM.E.1.cell 3;have acK:n'<=30:=by rw[PY.E];exact f2
 have Lm:af (∀k,((ss.take k).flatMap om).length<=3000000000):=λk=>by have h1:=acP (k:=k) Lr.E;omega
 go_wp2_with fail;clear x0 x1 x2 x3 a0 a1 a2 a3;go_loopw [32] (λiv wr=>∃j:Nat,iv=C D j/\j<=n'/\BR w1 b wo.heap.size 121 #[au ⟨nm.toArray⟩,ax Z,O A' n' c',C D az] (T0++Fs r++(ss.take j).flatMap om) wr) (λiv _=>n'-(intOf iv).toNat);case atStart=>exact⟨0,rfl,I,by simpa using rM.E⟩
 exact aiu
end Go.Proofs.YtgnflmdpalmejaaGreatDoor
