/- Lemmas for the proof of WholeRules (the card is in the file ..WholeRulesCard); each lemma names its own conditions. -/
import Derived.Test.YtgnflmdpalmejaaGreatDoorA05
namespace Go.Proofs.YtgnflmdpalmejaaGreatDoor
open Bool renaming eq_iff_iff->FH,false->X,false_eq_true->lK,true->Z
open Decidable renaming em->sU
open Go renaming Addr->aK,Calls->aF,Value->ak,World->Y,bodyPost_ret->eX
open Go.Ending renaming returned->aI
open Go.IntKind renaming i64->D
open Go.Obj renaming cells->ag
open Go.RowKit renaming Below->aj
open Go.RowKit.Below renaming refl->aN
open Go.Value renaming agg->aD,bool->ax,int->C,pointer->aQ,slice->O,string->au,tuple->bz
open Go.World renaming size_alloc->aW
open Inhabited renaming default->ay
open Int renaming lt_or_le->Gy,tdiv->rR
open List renaming drop_eq_getElem_cons->DY,drop_eq_nil_iff->JC,drop_of_length_le->Qy,flatten_cons->Sr,getD->dO,getElem_mem->rF,length_append->eB,length_cons->iP,map_cons->kE,take_of_length_le->o7,take_succ_eq_append_getElem->sD
open Nat renaming eq_zero_or_pos->sw,le_refl->aC,lt_or_ge->jl,mul_comm->L8,zero_le->FI
open Option renaming none->J,some->N
open Go.Proofs.Tryz renaming prog->aa
open Go.RowKit Go.Lib Go.Proofs.Tryz
set_option maxRecDepth 100000
set_option maxHeartbeats 32000000
set_option linter.unusedVariables false
set_option linter.unusedSimpArgs false
variable{A:Option aK}{B B' g k n:Nat}{R:Prop}{is:List Ins}{v:ak}{w w':Y}{α:Type}
theorem WX{n:Int}(h:bX n=Z): -1000000000000<=n/\n<=1000000000000:=by unfold bX at h;simpa using h
theorem WY(n:Int)(w:Y):aF aa 89 #[n] w λe' w'=>e'=aI (bX n)/\w=w':=by have F:af (bX n=(decide (-1000000000000<=n)&&decide (n<=1000000000000))):=rfl;have k0:decide (n>= -1000000000000)=decide (-1000000000000<=n):=rfl;cases h1:decide (-1000000000000<=n)<;>cases h2:decide (n<=1000000000000);all_goals(rw[h1,h2] at F;rw[h1] at k0;go_enter func89,ntmps89;go_wp2_with fail;go_ret;exact⟨ic,rfl⟩)
theorem awc(b:Bool)(w:Y):aF aa 90 #[b] w λe' w'=>e'=aI (C D (tr b))/\w=w':=by cases b;all_goals(go_enter func90,ntmps90;go_wp2_with fail;go_ret;exact⟨rfl,rfl⟩)
def Dp(o:Option Int):ak:=bz #[C D (o.getD 0),o.isSome]
theorem aj9(h:R:=by clear hfit;go_enter func91,ntmps91;go_wp2_with fail;go_ret2;exact⟨Rz,rfl⟩):R:=h
theorem awd(x y:Int)(hx:bX x=Z)(hy:bX y=Z)(w:Y):aF aa 91 #[x,y] w λe' w'=>e'=aI (Dp (PN x y))/\w=w':=by
 have F:af (PN x y=if x=0\/y=0 then N 0 else if max y (-y)>1000000000000/max x (-x) then J else N (x*y)):=rfl;have BH:=WX hx;have Eo:=WX hy;clear hx hy;by_cases h0:x=0;case pos=>subst h0;go_enter func91,ntmps91;go_wp2_with fail;go_ret2;exact⟨ic,rfl⟩
 have h0b:(x==0)=X:=by simpa using h0
 by_cases h1:y=0;case pos=>subst h1;go_enter func91,ntmps91;go_wp2_with fail;go_ret2;exact⟨by rw[F.E];simp[Dp],rfl⟩
 have h1b:(y==0)=X:=MU;have hm:1<=max x (-x):=I;have xG:max x (-x)<=1000000000000:=I;have hmy:1<=max y (-y):=I;have aka:max y (-y)<=1000000000000:=I;have aY:max x (-x)≠0:=I;have q0:rR 1000000000000 (max x (-x))=1000000000000/max x (-x):=Int.tdiv_eq_ediv_of_nonneg I;have q1:0<=1000000000000/max x (-x):=Int.ediv_nonneg I I;have q2:1000000000000/max x (-x)<=1000000000000:=Int.ediv_le_self _ I;have hfit:max y (-y)<=1000000000000/max x (-x)-> -1000000000000<=x*y/\x*y<=1000000000000:=by
  intro h;have a1:max y (-y)*max x (-x)<=1000000000000:=(Int.le_ediv_iff_mul_le I).1 h;have a2:(x*y).natAbs=(max y (-y)*max x (-x)).natAbs:=by rw[Int.natAbs_mul,Int.natAbs_mul,L8];congr 1<;>omega
  have a3:0<=max y (-y)*max x (-x):=Int.mul_nonneg I I;generalize x*y=z at*;generalize max y (-y)*max x (-x)=u at*;omega
 have F2:af (PN x y=if max y (-y)>1000000000000/max x (-x) then J else N (x*y)):=by show _=_;rw[F.E,if_neg I]
 clear F;by_cases hg:max y (-y)>1000000000000/max x (-x);case pos=>rw[if_pos hg] at F2;exact aj9
 rw[if_neg hg] at F2;have hr:=hfit I;exact aj9
def adD(op a x y:Int)(w:Y)(e:Ending)(w':Y):Prop:=e=aI (Dp (iC op a x y))/\w=w'
theorem awe{op a x y:Int}(hx:bX x=Z)(hy:bX y=Z)(h12:¬op=12):iC op a x y=(VM op a x y).bind λv=>if bX v then N v else J:=by unfold iC;rw[if_neg (by simp[hx,hy]),if_neg h12]
theorem Ty{n:Int}{b:Bool}(h:bX n=b)(w:Y):aF aa 89 #[C D n] w λe' w'=>e'=aI (ax b)/\w=w':=h▸WY n w
theorem oW(h:R:=by go_enter func41,ntmps41;go_wp2_with(first|(with_reducible refine(HX.E _).mono ?_;rintro e' wk ⟨rfl,rfl⟩)|(with_reducible refine(HY.E _).mono ?_;rintro e' wk ⟨rfl,rfl⟩)|(with_reducible refine(HA.E _).mono ?_;rintro e' wk ⟨rfl,rfl⟩)|(with_reducible refine(HP.E _).mono ?_;rintro e' wk ⟨rfl,rfl⟩)|(with_reducible refine(HV.E _).mono ?_;rintro e' wk ⟨rfl,rfl⟩)|(with_reducible refine(HT.E _ _).mono ?_;rintro e' wk ⟨rfl,rfl⟩;simp only[tr,if_true,if_false,lK])|(with_reducible refine(HU.E _ _).mono ?_;rintro e' wk ⟨rfl,rfl⟩;simp only[show bX 0=Z from rfl,show bX 1=Z from rfl]));go_ret2;exact⟨ic,rfl⟩):R:=h
theorem oV(h:R:=by rw[hv] at F;have HV:=G (Ty hv);clear hv;exact oW):R:=h
theorem oT(h:R:=by
  (try have aT:=beq_eq_false_iff_ne.2 h0);(try have Iq:=bne_iff_ne.2 h0);(try have aB:=beq_eq_false_iff_ne.2 h1);(try have hc1:=bne_iff_ne.2 h1);(try have uN:=decide_eq_true h0);(try have uN:=decide_eq_false h0);(try have Qw:decide (y>x)=Z:=uN);(try have Qw:decide (y>x)=X:=uN);(try have Qw:decide (x>y)=Z:=uN);(try have Qw:decide (x>y)=X:=uN);(try have Qw:decide (y>=x)=Z:=uN);(try have Qw:decide (y>=x)=X:=uN);(try have Qw:decide (x>=y)=Z:=uN);(try have Qw:decide (x>=y)=X:=uN);have F3:=F.E;first|simp[tr,h0,h1,show bX 0=Z from rfl,show bX 1=Z from rfl] at F3|simp[tr,h0,show bX 0=Z from rfl,show bX 1=Z from rfl] at F3|simp[tr,h1,show bX 0=Z from rfl,show bX 1=Z from rfl] at F3|simp[tr,show bX 0=Z from rfl,show bX 1=Z from rfl] at F3
  clear F;have F:=G F3;clear F3;have HT:=G awc;have HU:=G WY;exact oW):R:=h
theorem akb(h:R:=by clear HF vI hn;clear HP;rcases sU (x=0) with rfl|h0<;>rcases sU (y=0) with rfl|h1<;>exact oT):R:=h
theorem WZ(op a x y:Int)(w:Y):aF aa 41 #[C D op,C D a,C D x,C D y] w (adD op a x y w):=by
 cases hx:bX x;·have F:af (iC op a x y=J):=if_pos (.inl hx);have HX:=G (Ty hx);exact oW
 cases hy:bX y;·have F:af (iC op a x y=J):=if_pos (.inr hy);have HX:=G (Ty hx);have HY:=G (Ty hy);exact oW
 have HX:=G (Ty hx);have HY:=G (Ty hy);have BH:=WX hx;have Eo:=WX hy;have HP:=G (awd x y hx hy);unfold Dp at HP;have HF:=λ(o:Int) (h:¬o=12)=>G (awe (a:=a) hx hy h);have vI:¬(bX x=X\/bX y=X):=by simp[hx,hy]
 clear hx hy;by_cases hn:op=5\/op=6\/op=8\/op=9\/10<=op/\op<=22
 ·have:op=5\/op=6\/op=8\/op=9\/op=10\/op=11\/op=12\/op=13\/op=14\/op=15\/op=16\/op=17\/op=18\/op=19\/op=20\/op=21\/op=22:=by omega
  rcases this with rfl|rfl|rfl|rfl|rfl|rfl|rfl|rfl|rfl|rfl|rfl|rfl|rfl|rfl|rfl|rfl|rfl;·have F:af (iC 5 a x y=if bX (-x) then N (-x) else J):=HF 5 aL;clear HF vI hn;cases hv:bX (-x)<;>exact oV
  ·have F:af (iC 6 a x y=if bX (max x (-x)) then N (max x (-x)) else J):=HF 6 aL;clear HF vI hn;cases hv:bX (max x (-x))<;>exact oV
  ·have F:af (iC 8 a x y=if bX (tr (decide (x=0))) then N (tr (decide (x=0))) else J):=HF 8 aL;clear HF vI hn;clear HP;rcases sU (x=0) with rfl|h0<;>exact oT
  ·have F:af (iC 9 a x y=(if a<1\/bX a=X then J else N (Sn a x)).bind λv=>if bX v then N v else J):=HF 9 aL;clear HF vI hn HP;have HA:=G (WY a);by_cases ha:a<1;case pos=>
    have tL:decide (a<1)=Z:=by simpa using ha
    rw[if_pos (.inl ha)] at F;exact oW
   have tL:decide (a<1)=X:=by simpa using ha
   cases hm:bX a;case false=>rw[if_pos (.inr hm)] at F;rw[hm] at HA;exact oW
   rw[if_neg (by rw[hm];simp;omega)] at F;rw[hm] at HA;have ha2:=WX hm;clear hm;have BM:0<=max x (-x):=I;have akc:max x (-x)<=1000000000000:=I;have q0:rR (2*max x (-x)+a) (2*a)=(2*max x (-x)+a)/(2*a):=Int.tdiv_eq_ediv_of_nonneg I;have q1:0<=(2*max x (-x)+a)/(2*a):=Int.ediv_nonneg I I;have q2:(2*max x (-x)+a)/(2*a)<=2*max x (-x)+a:=Int.ediv_le_self _ I;have aY:2*a≠0:=I;have HP:af (Sn a x=if x<0 then -((2*max x (-x)+a)/(2*a)) else(2*max x (-x)+a)/(2*a)):=rfl;rw[show(N (Sn a x)).bind (λv=>if bX v then N v else J)=(if bX (Sn a x) then N (Sn a x) else J) from rfl] at F;by_cases wW:x<0;case pos=>
    have pM:decide (x<0)=Z:=by simpa using wW
    rw[if_pos wW] at HP;rw[HP.E] at F;clear HP;cases hv:bX (-((2*max x (-x)+a)/(2*a)))<;>exact oV
   have pM:decide (x<0)=X:=by simpa using wW
   rw[if_neg wW] at HP;rw[HP.E] at F;clear HP;cases hv:bX ((2*max x (-x)+a)/(2*a))<;>exact oV
  ·have F:af (iC 10 a x y=if bX (x+y) then N (x+y) else J):=HF 10 aL;clear HF vI hn;cases hv:bX (x+y)<;>exact oV
  ·have F:af (iC 11 a x y=if bX (x-y) then N (x-y) else J):=HF 11 aL;clear HF vI hn;cases hv:bX (x-y)<;>exact oV
  ·have F:af (iC 12 a x y=PN x y):=(if_neg vI).trans (if_pos rfl);clear HF vI hn;exact oW
  ·have F:af (iC 13 a x y=if bX (min x y) then N (min x y) else J):=HF 13 aL;clear HF vI hn;cases hv:bX (min x y)<;>exact oV
  ·have F:af (iC 14 a x y=if bX (max x y) then N (max x y) else J):=HF 14 aL;clear HF vI hn;cases hv:bX (max x y)<;>exact oV
  ·have F:af (iC 15 a x y=if bX (tr (decide (x≠0)&&decide (y≠0))) then N (tr (decide (x≠0)&&decide (y≠0))) else J):=HF 15 aL;exact akb
  ·have F:af (iC 16 a x y=if bX (tr (decide (x≠0)||decide (y≠0))) then N (tr (decide (x≠0)||decide (y≠0))) else J):=HF 16 aL;exact akb
  ·have F:af (iC 17 a x y=if bX (tr (decide (x<y))) then N (tr (decide (x<y))) else J):=HF 17 aL;clear HF vI hn;clear HP;by_cases h0:x<y<;>exact oT
  ·have F:af (iC 18 a x y=if bX (tr (decide (x<=y))) then N (tr (decide (x<=y))) else J):=HF 18 aL;clear HF vI hn;clear HP;by_cases h0:x<=y<;>exact oT
  ·have F:af (iC 19 a x y=if bX (tr (decide (x=y))) then N (tr (decide (x=y))) else J):=HF 19 aL;clear HF vI hn;clear HP;rcases sU (x=y) with rfl|h0<;>exact oT
  ·have F:af (iC 20 a x y=if bX (tr (decide (x≠y))) then N (tr (decide (x≠y))) else J):=HF 20 aL;clear HF vI hn;clear HP;rcases sU (x=y) with rfl|h0<;>exact oT
  ·have F:af (iC 21 a x y=if bX (tr (decide (y<=x))) then N (tr (decide (y<=x))) else J):=HF 21 aL;clear HF vI hn;clear HP;by_cases h0:y<=x<;>exact oT
  have F:af (iC 22 a x y=if bX (tr (decide (y<x))) then N (tr (decide (y<x))) else J):=HF 22 aL;clear HF vI hn;clear HP;by_cases h0:y<x<;>exact oT
 have F:af (iC op a x y=J):=by
  show _=_;rw[(HF op I).E];unfold VM;iterate 16 rw[if_neg I]
  rfl
 clear HF vI HP;have n5:(op==5)=X:=iO;have n6:(op==6)=X:=iO;have n8:(op==8)=X:=iO;have n9:(op==9)=X:=iO;have n10:(op==10)=X:=iO;have n11:(op==11)=X:=iO;have n12:(op==12)=X:=iO;have n13:(op==13)=X:=iO;have n14:(op==14)=X:=iO;have n15:(op==15)=X:=iO;have n16:(op==16)=X:=iO;have n17:(op==17)=X:=iO;have n18:(op==18)=X:=iO;have n19:(op==19)=X:=iO;have n20:(op==20)=X:=iO;have n21:(op==21)=X:=iO;have n22:(op==22)=X:=iO;clear hn;exact oW
section
def uY:Array ak:=#[au ⟨#[]⟩,C D 0,C D 0,C D 0,au ⟨#[112,117,115,104]⟩,C D 0,C D 1,C D 1,au ⟨#[108,111,97,100]⟩,C D 0,C D 1,C D 1,au ⟨#[98,97,108,97,110,99,101]⟩,C D 0,C D 1,C D 2,au ⟨#[112,97,114,116,110,101,114]⟩,C D 0,C D 1,C D 2,au ⟨#[110,101,103]⟩,C D 1,C D 1,C D 0,au ⟨#[97,98,115]⟩,C D 1,C D 1,C D 0,au ⟨#[115,104,97,114,101]⟩,C D 1,C D 1,C D 0,au ⟨#[110,111,116]⟩,C D 1,C D 1,C D 0,au ⟨#[112,101,114]⟩,C D 1,C D 1,C D 1,au ⟨#[97,100,100]⟩,C D 2,C D 1,C D 0,au ⟨#[115,117,98]⟩,C D 2,C D 1,C D 0,au ⟨#[109,117,108]⟩,C D 2,C D 1,C D 0,au ⟨#[109,105,110]⟩,C D 2,C D 1,C D 0,au ⟨#[109,97,120]⟩,C D 2,C D 1,C D 0,au ⟨#[97,110,100]⟩,C D 2,C D 1,C D 0,au ⟨#[111,114]⟩,C D 2,C D 1,C D 0,au ⟨#[108,101,115,115]⟩,C D 2,C D 1,C D 0,au ⟨#[108,101,115,115,101,113,117,97,108]⟩,C D 2,C D 1,C D 0,au ⟨#[101,113,117,97,108]⟩,C D 2,C D 1,C D 0,au ⟨#[110,111,116,101,113,117,97,108]⟩,C D 2,C D 1,C D 0,au ⟨#[103,114,101,97,116,101,114,101,113,117,97,108]⟩,C D 2,C D 1,C D 0,au ⟨#[103,114,101,97,116,101,114]⟩,C D 2,C D 1,C D 0,au ⟨#[115,116,111,114,101]⟩,C D 1,C D 0,C D 1,au ⟨#[114,101,113,117,105,114,101]⟩,C D 1,C D 0,C D 0,au ⟨#[112,111,115,116]⟩,C D 1,C D 0,C D 1,au ⟨#[116,111]⟩,C D 0,C D 0,C D 1]
theorem axd(w:Y):(Instr.build 139 #[(1,aD #[au ⟨#[112,117,115,104]⟩,C D 0,C D 1,C D 1]),(2,aD #[au ⟨#[108,111,97,100]⟩,C D 0,C D 1,C D 1]),(3,aD #[au ⟨#[98,97,108,97,110,99,101]⟩,C D 0,C D 1,C D 2]),(4,aD #[au ⟨#[112,97,114,116,110,101,114]⟩,C D 0,C D 1,C D 2]),(5,aD #[au ⟨#[110,101,103]⟩,C D 1,C D 1,C D 0]),(6,aD #[au ⟨#[97,98,115]⟩,C D 1,C D 1,C D 0]),(7,aD #[au ⟨#[115,104,97,114,101]⟩,C D 1,C D 1,C D 0]),(8,aD #[au ⟨#[110,111,116]⟩,C D 1,C D 1,C D 0]),(9,aD #[au ⟨#[112,101,114]⟩,C D 1,C D 1,C D 1]),(10,aD #[au ⟨#[97,100,100]⟩,C D 2,C D 1,C D 0]),(11,aD #[au ⟨#[115,117,98]⟩,C D 2,C D 1,C D 0]),(12,aD #[au ⟨#[109,117,108]⟩,C D 2,C D 1,C D 0]),(13,aD #[au ⟨#[109,105,110]⟩,C D 2,C D 1,C D 0]),(14,aD #[au ⟨#[109,97,120]⟩,C D 2,C D 1,C D 0]),(15,aD #[au ⟨#[97,110,100]⟩,C D 2,C D 1,C D 0]),(16,aD #[au ⟨#[111,114]⟩,C D 2,C D 1,C D 0]),(17,aD #[au ⟨#[108,101,115,115]⟩,C D 2,C D 1,C D 0]),(18,aD #[au ⟨#[108,101,115,115,101,113,117,97,108]⟩,C D 2,C D 1,C D 0]),(19,aD #[au ⟨#[101,113,117,97,108]⟩,C D 2,C D 1,C D 0]),(20,aD #[au ⟨#[110,111,116,101,113,117,97,108]⟩,C D 2,C D 1,C D 0]),(21,aD #[au ⟨#[103,114,101,97,116,101,114,101,113,117,97,108]⟩,C D 2,C D 1,C D 0]),(22,aD #[au ⟨#[103,114,101,97,116,101,114]⟩,C D 2,C D 1,C D 0]),(23,aD #[au ⟨#[115,116,111,114,101]⟩,C D 1,C D 0,C D 1]),(24,aD #[au ⟨#[114,101,113,117,105,114,101]⟩,C D 1,C D 0,C D 0]),(25,aD #[au ⟨#[112,111,115,116]⟩,C D 1,C D 0,C D 1]),(26,aD #[au ⟨#[116,111]⟩,C D 0,C D 0,C D 1])]).run aa w= .ok (aD uY) w:=by kernel_rfl
theorem Ub:(aa.info? 139).map (·.size)=N uY.size:=by kernel_rfl
theorem Xo:zeroCells139.size=uY.size:=by kernel_rfl
theorem Xp:uY.all (·.oneCell')=Z:=by kernel_rfl
theorem axe{tmps:Array ak}(h:ai w g 139 uY)(h0:tmps.getD 0 undef=aQ (N ⟨g,0,J⟩)):(results f38 tmps).run aa w= .ok (aD uY) w:=results_cell_row results38 tmps w g 139 uY (0,0) _ h0 h underlying139 rfl Ub
theorem ald(w:Y):aF aa 38 #[] w λe w'=>e=aI (aD uY)/\aj w.heap.size w w':=by have hs:=run_storeCells_new (P:=aa) w 139 zeroCells139 uY Ub Xo Xp;go_enter func38,ntmps38;go_wp2_with((with_reducible refine Vs rfl 139 _ rfl _ ?_ (aD uY) (axd _) ?_);go_loud (simp only[List.map_toArray,kE,List.map_nil];rfl));refine eX (axe (g:=w.heap.size) (ai.new w _ _) rfl) rfl ⟨rfl,(aN _ _).alloc (aC _) _⟩
theorem ale(op:Int)(h1:1<=op)(h2:op<=26):∃(nm:ByteArray) (us:Int),uY[op.toNat*4]?=N (.string nm)/\uY[op.toNat*4+1]?=N (C D (dZ op:Nat))/\uY[op.toNat*4+2]?=N (C D (ji op:Nat))/\uY[op.toNat*4+3]?=N (C D us):=by
 obtain⟨k,rfl⟩:∃k:Nat,op=(k:Int)+1:=⟨(op-1).toNat,I⟩;have hk:k<26:=I;clear h1 h2;match k,hk with
 |0,_|1,_|2,_|3,_|4,_|5,_|6,_|7,_|8,_|9,_|10,_|11,_|12,_|13,_|14,_|15,_|16,_|17,_|18,_|19,_|20,_|21,_|22,_|23,_|24,_|25,_=>exact⟨_,_,rfl,rfl,rfl,rfl⟩
 |n+26,h=>omega
end
theorem aaK(n:Int)(w:Y):aF aa 170 #[C D n] w λe' w'=>e'=aI (ax (iw n))/\w=w':=by have F:af (iw n=(decide (1<=n)&&decide (n<=99999))):=rfl;have k0:decide (n>=1)=decide (1<=n):=rfl;cases h1:decide (1<=n)<;>cases h2:decide (n<=99999);all_goals(rw[h1,h2] at F;rw[h1] at k0;go_enter func170,ntmps170;go_wp2_with fail;go_ret;exact⟨ic,rfl⟩)
def wZ(nm:ByteArray)(pair:Bool)(v:ak):ak:=aD #[.string nm,ax pair,v]
def axf(op a b:Int)(pair:Bool)(st:Nat)(w:Y)(e:Ending)(w':Y):Prop:=e=aI (ax (kI ⟨op,a,b⟩ pair st))/\aj w.heap.size w w'
theorem nW(h:R:=by go_enter func106,ntmps106;go_wp2_with(first|(with_reducible refine(HA.E _).mono ?_;rintro e' wk ⟨rfl,rfl⟩)|(with_reducible refine(HB.E _).mono ?_;rintro e' wk ⟨rfl,rfl⟩));go_ret;exact⟨ic,nQ.E⟩):R:=h
theorem nZ(h:R:=by
  rcases sU (b=0) with rfl|hb;all_goals(try(have k1:=beq_eq_false_iff_ne.2 hb))
  all_goals(try rw[decide_eq_false hb] at F)
  all_goals exact nW):R:=h
theorem alf(h:R:=by have HA:=G (aaK a);have HB:=G (aaK b);cases h1:iw a<;>cases h2:iw b<;>cases h3:decide (a<=b)<;>cases pair<;>rw[h1,h2,h3] at F<;>rw[h1] at HA<;>rw[h2] at HB<;>exact nW):R:=h
theorem axg(op a b:Int)(nm:ByteArray)(pair:Bool)(v:ak)(st:Nat)(w:Y):aF aa 106 #[aD #[C D op,C D a,C D b],wZ nm pair v,C D (st:Int)] w (axf op a b pair st w):=by
 unfold wZ;have nQ:=G (((aN w.heap.size w).alloc (aC _) (ag #[C D op,C D a,C D b] 142)).alloc aG (ag #[.string nm,ax pair,v] 64));rcases sU (op=1) with rfl|g1
 ·have F:af (kI ⟨1,a,b⟩ pair st=(bX a&&decide (b=0))):=by rfl
  have HA:=G (WY a);cases h1:bX a<;>rw[h1] at HA F<;>exact nZ
 rcases sU (op=2) with rfl|g2
 ·have F:af (kI ⟨2,a,b⟩ pair st=(decide (0<=a)&&decide (a<(st:Int))&&decide (b=0))):=by rfl
  have k0:decide (a>=0)=decide (0<=a):=rfl;cases h1:decide (0<=a)<;>cases h2:decide (a<(st:Int))<;>rw[h1,h2] at F<;>rw[h1] at k0<;>exact nZ
 rcases sU (op=3) with rfl|g3
 ·have F:af (kI ⟨3,a,b⟩ pair st=(iw a&&iw b&&decide (a<=b)&&(Z||pair))):=by rfl
  exact alf
 rcases sU (op=4) with rfl|g4
 ·have F:af (kI ⟨4,a,b⟩ pair st=(iw a&&iw b&&decide (a<=b)&&(X||pair))):=by rfl
  exact alf
 rcases sU (op=9) with rfl|g9
 ·have F:af (kI ⟨9,a,b⟩ pair st=(decide (1<=a)&&bX a&&decide (b=0))):=by rfl
  have k0:decide (a>=1)=decide (1<=a):=rfl;have HA:=G (WY a);cases h1:decide (1<=a)<;>cases h2:bX a<;>rw[h1,h2] at F<;>rw[h2] at HA<;>rw[h1] at k0<;>exact nZ
 rcases sU (op=23) with rfl|g23
 ·have F:af (kI ⟨23,a,b⟩ pair st=(decide (a=(st:Int))&&decide (b=0))):=by rfl
  have k3:((st:Int)==(st:Int))=Z:=aG;rcases sU (a=(st:Int)) with rfl|ha;·rw[decide_eq_true (rfl:(st:Int)=st)] at F;exact nZ
  have k2:=beq_eq_false_iff_ne.2 ha;rw[decide_eq_false ha] at F;exact nZ
 rcases sU (op=25) with rfl|g25
 ·have F:af (kI ⟨25,a,b⟩ pair st=(iw a&&decide (b=0))):=by rfl
  have HA:=G (aaK a);cases h1:iw a<;>rw[h1] at HA F<;>exact nZ
 rcases sU (op=26) with rfl|g26
 ·have F:af (kI ⟨26,a,b⟩ pair st=(iw a&&decide (b=0))):=by rfl
  have HA:=G (aaK a);cases h1:iw a<;>rw[h1] at HA F<;>exact nZ
 have F:af (kI ⟨op,a,b⟩ pair st=(decide (a=0)&&decide (b=0))):=by show kI _ _ _=_;unfold kI;simp only[g1,g2,g3,g4,g9,g23,g25,g26,if_false,or_false]
 have j1:=beq_eq_false_iff_ne.2 g1;have j2:=beq_eq_false_iff_ne.2 g2;have j3:=beq_eq_false_iff_ne.2 g3;have j4:=beq_eq_false_iff_ne.2 g4;have j9:=beq_eq_false_iff_ne.2 g9;have j23:=beq_eq_false_iff_ne.2 g23;have j25:=beq_eq_false_iff_ne.2 g25;have j26:=beq_eq_false_iff_ne.2 g26;rcases sU (a=0) with rfl|ha;·exact nZ
 have k2:=beq_eq_false_iff_ne.2 ha;rw[decide_eq_false ha] at F;exact nZ
def um(w:Y)(g off:Nat)(is:List Ins):Prop:=∀k,k<is.length->w.cell? ⟨g,off+k*3,J⟩=N (C D (is.getD k ay).op)/\w.cell? ⟨g,off+k*3+1,J⟩=N (C D (is.getD k ay).a)/\w.cell? ⟨g,off+k*3+2,J⟩=N (C D (is.getD k ay).b)
theorem um.below{off:Nat}(h:um w g off is)(hb:aj B w w')(hg:g<B):um w' g off is:=λk hk=>by obtain⟨a,b,c⟩:=h k hk;exact⟨(hb.cell hg).trans a,(hb.cell hg).trans b,(hb.cell hg).trans c⟩
theorem um.lt{off:Nat}(h:um w g off is)(h0:is≠ []):g<w.heap.size:=block_lt (h 0 (List.length_pos_iff.2 h0)).1
theorem alg(pair:Bool)(is:List Ins)(i d st:Nat)(hi:i<is.length):je pair (is.drop i) d st=
  ((
    decide (1<=(is.getD i ay).op)&&decide ((is.getD i ay).op<=26)&&(decide ((is.getD i ay).op=26)==decide (i+1=is.length))&&kI (is.getD i ay) pair st&&
    decide (dZ (is.getD i ay).op<=d)&&(decide (ji (is.getD i ay).op≠0)||decide (d=dZ (is.getD i ay).op)))&&je pair (is.drop (i+1)) (d+ji (is.getD i ay).op-dZ (is.getD i ay).op) (st+if(is.getD i ay).op=23 then 1 else 0)):=by
 have e:is.getD i ay=is[i]:=U2;have e2:decide (is.drop (i+1)= [])=decide (i+1=is.length):=by rw[decide_eq_decide,JC];omega
 rw[e,DY hi,je,e2]
theorem alh(op:Int):dZ op<=2/\ji op<=1:=by
 unfold dZ ji;constructor
 ·split;·omega
  split<;>omega
 split<;>omega
def axh(pair:Bool)(is:List Ins)(w:Y)(e:Ending)(w':Y):Prop:=∃sz:Nat,e=aI (bz #[(sz:Int),ax (oC pair is)])/\aj w w w'
theorem ali(h:R:=by go_wp2_with fail;exact⟨⟨i+1,d',st+1,max sz d',by first|rfl|(simp only[BM])|go_num,by first|rfl|(simp only[hdz])|go_num,bR,bR,I,I,I,I,by simpa using F.E,Xg.E.alloc I _⟩,bW⟩):R:=h
theorem alj(h:R:=by go_wp2_with fail;exact⟨⟨i+1,d',st,max sz d',by first|rfl|(simp only[BM])|go_num,by first|rfl|(simp only[hdz])|go_num,rfl,bR,I,I,I,I,by simpa using F.E,Xg.E.alloc I _⟩,bW⟩):R:=h
theorem axi(nm:ByteArray)(pair:Bool)(g off n c:Nat)(is:List Ins)(w:Y)(hA:um w g off is)(hn:is.length=n)(h0:0<n)(jG:n<=1000000000):
  aF aa 57 #[wZ nm pair (O (N ⟨g,off,J⟩) n c)] w (axh pair is w):=by
 have hg:=hA.lt (λz=>by rw[z] at hn;simp at hn;omega);have HA:=G hA;have HN:=G hn;have FC:af (oC pair is=je pair is 0 0):=by
  show _=_;unfold oC;cases is with
  |nil=>simp at hn;omega
  |cons x r=>rfl
 have aT:=(aN w.heap.size w).alloc (aC _) (ag #[.string nm,ax pair,O (N ⟨g,off,J⟩) n c] 64);have aP:=G aT;have qV:=G (ai.new w 64 #[.string nm,ax pair,O (N ⟨g,off,J⟩) n c]);have lY:=aT.size;have axj:w.heap.size<(w.alloc (ag #[.string nm,ax pair,O (N ⟨g,off,J⟩) n c] 64)).heap.size:=aG;have k0:((n:Int)==0)=X:=by have:(n:Int)≠0:=I;simpa using this
 clear hA hn aT;unfold wZ;go_enter func57,ntmps57;go_wp2_with fail;refine(ald _).mono ?_;rintro e' w1 ⟨rfl,aB⟩;have aM:=G (aU aP.E aB);have tY:=G (qV.E.below aB aG);have ed:w.heap.size<w1.heap.size:=OY;have hs:=run_storeCells_new (P:=aa) w1 139 zeroCells139 uY Ub Xo Xp;have fw:=run_storeAt_new (P:=aa) w1 139 zeroCells139 uY Ub Xo Xp;clear aB aP qV lY axj;have y2:w1.cell? ⟨w.heap.size,2,J⟩=N (O (N ⟨g,off,J⟩) n c):=tY.E.cell 2;go_upto_region 5 with fail;obtain⟨w2,gM⟩:∃w2:Y,w2=w1.alloc (ag uY 139):=⟨_,rfl⟩;have hsz2:w2.heap.size=w1.heap.size+1:=Rp;have adW:aj w1.heap.size w1 w2:=abo;have HT:af (ai w2 w1.heap.size 139 uY):=by show ai _ _ _ _;rw[gM];exact ai.new w1 _ _
 have kW:=G (tY.E.below adW ed);have aS:=G (aU aM.E adW);rw[<-gM];clear gM hs fw y2 tY aM adW;have y2:w2.cell? ⟨w.heap.size,2,J⟩=N (O (N ⟨g,off,J⟩) n c):=kW.E.cell 2;go_wp2_with fail;clear y2;go_loopw [4,5,6,19] (λzv dv sv iv wr=>∃(i d st sz:Nat),zv=C D (sz:Int)/\dv=C D (d:Int)/\sv=C D (st:Int)/\iv=C D (i:Int)/\i<=n/\d<=i/\st<=i/\sz<=i/\oC pair is=je pair (is.drop i) d st/\aj w2.heap.size w2 wr) (λ_ _ _ iv _=>n-(intOf iv).toNat);case atStart=>exact⟨0,0,0,0,rfl,rfl,rfl,rfl,FI _,aC _,aC _,aC _,by rw[FC.E];rfl,aN _ _⟩
 obtain⟨i,d,st,sz,rfl,rfl,rfl,rfl,hi,hd,fP,bV,aX,aH⟩:=hrel;obtain⟨wo,rfl⟩:=dz wr;have dI:=G aX;have bA:=G aH;have eP:=aH.size;have LM:w.heap.size<wo.heap.size:=I;clear aX aH;by_cases aO:i<n;case neg=>
  have F:af (oC pair is=Z):=by show _=_;rw[dI.E,Qy Rw];rfl
  go_wp2_with fail;go_ret2;exact⟨sz,ic,aS.E.trans (bA.E.mono UZ)⟩
 have b3:(i:Int)<(n:Int):=I;obtain⟨a0,a1,a2⟩:=(HA.E.below (aS.E.trans (bA.E.mono UZ)) hg) i U4;have yG:=alg pair is i d st U4;rw[<-dI.E,HN.E] at yG;have kX:=G yG;have y0:wo.cell? ⟨w.heap.size,0,J⟩=N (.string nm):=(kW.E.below bA.E I).cell 0;have y1:wo.cell? ⟨w.heap.size,1,J⟩=N (ax pair):=(kW.E.below bA.E I).cell 1;have y2:wo.cell? ⟨w.heap.size,2,J⟩=N (O (N ⟨g,off,J⟩) n c):=(kW.E.below bA.E I).cell 2;have BS:af (aj w.heap.size w (wo.alloc (ag #[C D (is.getD i ay).op,C D (is.getD i ay).a,C D (is.getD i ay).b] 142))):=(aS.E.trans (bA.E.mono UZ)).alloc UZ _;clear yG dI;generalize is.getD i ay=x at*;obtain⟨op,a,b⟩:=x;simp only[] at a0 a1 a2 kX BS;rcases Gy op 1 with h1|h1;case inl=>
  have F:af (oC pair is=X):=by show _=_;rw[kX.E,decide_eq_false (by omega:¬1<=op)];simp
  go_wp2_with fail;go_ret2;exact⟨0,ic,BS.E⟩
 have k4:decide (op<1)=X:=fI;rcases Gy 26 op with h2|h2;case inl=>
  have F:af (oC pair is=X):=by show _=_;rw[kX.E,decide_eq_false (by omega:¬op<=26)];simp
  go_wp2_with fail;go_ret2;exact⟨0,ic,BS.E⟩
 have k5:decide (op>26)=X:=fI;obtain⟨k,rfl⟩:∃k:Nat,op=(k:Int):=⟨op.toNat,I⟩;have k6:((k:Int)==26)=decide ((k:Int)=26):=rfl;have k7:((i:Int)==(n:Int)-1)=decide (i+1=n):=by have:((i:Int)=(n:Int)-1)↔(i+1=n):=I;rw[FH];simpa using this
 have FM:af ((decide ((k:Int)=26)==decide (i+1=n))=X->oC pair is=X):=λh=>by rw[kX.E,h];simp
 have vF:=G (λW=>axg (k:Int) a b nm pair (O (N ⟨g,off,J⟩) n c) st W);unfold wZ at vF;have FN:af (kI ⟨(k:Int),a,b⟩ pair st=X->oC pair is=X):=λh=>by rw[kX.E,h];simp
 obtain⟨nmr,us,r0,r1,r2,r3⟩:=ale (k:Int) h1 h2;simp only[Int.toNat_natCast] at r0 r1 r2 r3;obtain⟨ht2,fH⟩:=alh (k:Int);generalize decide ((k:Int)=26)=bo at*;generalize decide (i+1=n)=bl at*;rcases sU ((bo==bl)=X) with hm|hm;case inl=>
  have F:=G (FM.E hm);cases bo<;>cases bl<;>simp at hm;all_goals
   go_wp2_with fail;go_ret2;exact⟨0,ic,BS.E⟩
 have xG:bo=bl:=by cases bo<;>cases bl<;>simp_all
 subst xG;have kx:(bo !=bo)=X:=by cases bo<;>rfl
 have HX:=G (ai.new wo 142 #[C D (k:Int),C D a,C D b]);have QG:=G ((HT.E.below bA.E I).alloc (ag #[C D (k:Int),C D a,C D b] 142));have FNX:af (kI ⟨(k:Int),a,b⟩ pair st=Z->oC pair is=(decide (dZ (k:Int)<=d)&&(decide (ji (k:Int)≠0)||decide (d=dZ (k:Int)))&&je pair (is.drop (i+1)) (d+ji (k:Int)-dZ (k:Int)) (st+if(k:Int)=23 then 1 else 0))):=by intro h;rw[kX.E,h,decide_eq_true h1,decide_eq_true h2];cases bo<;>simp
 have k23:((k:Int)==23)=decide ((k:Int)=23):=rfl;have e23:(if(k:Int)=23 then 1 else 0)=(if decide ((k:Int)=23)=Z then 1 else(0:Nat)):=aG;rw[e23] at FNX;generalize dZ (k:Int)=tk at*;generalize ji (k:Int)=pt at*;generalize decide ((k:Int)=23)=bst at*;clear kX FM;go_wp2_with fail;refine(vF.E _).mono ?_;rintro e' w3 ⟨rfl,aR⟩;have bC:=G (aU BS.E aR);have Xg:=G ((bA.E.alloc eP _).trans (aR.mono bB));have fM:=aR.size;simp only[aW] at fM;have Be:=HX.E.below aR aG;have ht3:=QG.E.below aR bB;clear aR HX QG vF;have c0:w3.cell? ⟨wo.heap.size,0,J⟩=N (C D (k:Int)):=Be.cell 0;have d0:=(ht3.cell (k*4)).trans r0;have d1:=(ht3.cell (k*4+1)).trans r1;have d2:=(ht3.cell (k*4+2)).trans r2;have d3:=(ht3.cell (k*4+3)).trans r3;have rU:w1.heap.size<w3.heap.size:=I;have Iy:wo.heap.size<w3.heap.size:=I;clear Be ht3 r0 r1 r2 r3;cases hnv:kI ⟨(k:Int),a,b⟩ pair st;case false=>have F:=G (FN.E hnv);go_wp2_with fail;go_ret2;exact⟨0,ic,bC.E⟩
 have FX:=G (FNX.E hnv);clear FNX FN hnv;have b27:(k:Int)<27:=I;have dE:=G (bC.E.alloc I (ag #[.string nmr,C D (tk:Int),C D (pt:Int),C D us] 138));rcases jl d tk with pG|pG
 ·have F:af (oC pair is=X):=by show _=_;rw[FX.E,decide_eq_false (by omega:¬tk<=d)];simp
  go_wp2_with fail;go_ret2;exact⟨0,ic,dE.E⟩
 rcases sw pt with hp0|hp0
 ·rcases sU (d=tk) with hdt|hdt
  ·obtain⟨d',hd'⟩:∃x:Nat,x=d+pt-tk:=⟨_,rfl⟩;have hdz:(d:Int)+((pt:Int)-(tk:Int))=(d':Int):=I;have F:af (oC pair is=je pair (is.drop (i+1)) d' (st+if bst=Z then 1 else 0)):=by show _=_;rw[FX.E,decide_eq_true pG,hd'];simp[hdt,hp0]
   have BM:max (sz:Int) (d':Int)=((max sz d':Nat):Int):=I;cases bst;·exact alj
   exact ali
  have k10:((d:Int)!=(tk:Int))=Z:=by have:(d:Int)≠(tk:Int):=I;simpa using this
  have F:af (oC pair is=X):=by show _=_;rw[FX.E,hp0,decide_eq_false hdt];simp
  go_wp2_with fail;go_ret2;exact⟨0,ic,bC.E.alloc I _⟩
 have k9:((pt:Int)==0)=X:=by have:(pt:Int)≠0:=I;simpa using this
 have ow:pt≠0:=I;obtain⟨d',hd'⟩:∃x:Nat,x=d+pt-tk:=⟨_,rfl⟩;have hdz:(d:Int)+((pt:Int)-(tk:Int))=(d':Int):=I;have F:af (oC pair is=je pair (is.drop (i+1)) d' (st+if bst=Z then 1 else 0)):=by show _=_;rw[FX.E,decide_eq_true pG,hd'];simp[ow]
 have BM:max (sz:Int) (d':Int)=((max sz d':Nat):Int):=I;cases bst;·exact alj
 exact ali
theorem adX(nm:ByteArray)(pair:Bool)(g off n c:Nat)(is:List Ins)(w:Y)(hA:um w g off is)(hn:is.length=n)(h0:0<n)(jG:n<=1000000000):
  aF aa 17 #[wZ nm pair (O (N ⟨g,off,J⟩) n c)] w λe w'=>e=aI (oC pair is)/\aj w w w':=by have hg:=hA.lt (λz=>by rw[z] at hn;simp at hn;omega);have aT:=(aN w w).alloc (aC _) (ag #[.string nm,pair,O (N ⟨g,off,J⟩) n c] 64);have HM:=G (axi nm pair g off n c is (w.alloc (ag #[.string nm,pair,O (N ⟨g,off,J⟩) n c] 64)) (hA.below aT hg) hn h0 jG);have aP:=G aT;clear hA aT;unfold wZ at*;go_enter func17,ntmps17;go_wp2_with fail;refine HM.mono ?_;rintro e' w1 ⟨sz,rfl,aB⟩;obtain⟨ok,aX⟩:∃b,b=oC pair is:=⟨_,rfl⟩;rw[<-aX];go_wp2_with fail;go_ret;exact⟨rfl,aU aP aB⟩
def Xq(x:Ins):ak:=aD #[x.op,x.a,x.b]
theorem alk(h:R:=by have e:xs.getD k ay=xs[k]:=zV;rw[e] at h;exact List.any_eq_true.2 ⟨_,rF hk,h⟩):R:=h
theorem axk{p:Ins->Bool}{xs:List Ins}(hk:k<xs.length)(h:p (xs.getD k ay)=Z):xs.any p=Z:=by exact alk
theorem axl{p:Ins->Bool}{xs:List Ins}(hk:k<xs.length)(h:(xs.take k).any p=X)(h':p (xs.getD k ay)=X):(xs.take (k+1)).any p=X:=by rw[sD hk,List.any_append,h];have e:xs.getD k ay=xs[k]:=zV;rw[e] at h';simp[h']
def axm(p:Ins->Bool)(xs:List Ins)(w:Y)(e:Ending)(w':Y):Prop:=∃r:Int,e=aI r/\decide (0<=r)=xs.any p/\aj w w w'
theorem alm(h:R:=by have k3:decide ((i:Int)<(na:Int))=X:=fI;rw[o7 (by rw[gH.E];omega)] at hd;have F:=G hd;clear hd;go_wp2_with fail;go_ret;exact⟨-1,rfl,ic,aH⟩):R:=h
theorem aln(h:R:=by go_wp2_with fail;exact⟨⟨i+1,bR,I,F,HB⟩,bW⟩):R:=h
theorem axn(Fu:FuncId)(p:Ins->Bool)(oo:∀(args:Array ak) (w:Y),(callFunc Fu args).run aa w= .ok (.enter Fu args) w)(xs:List Ins)(g off na ca:Nat)(w:Y)(hA:um w g off xs)(bH:xs.length=na)(hg:g<w.heap.size)(jG:na<=1000000000)
  (hF:∀(y:Ins) (W:Y),aF aa Fu #[Xq y] W λe w'=>e=aI (p y)/\aj W W w'):
  aF aa 88 #[O (N ⟨g,off,J⟩) na ca,.func (.func Fu) #[] #[]] w (axm p xs w):=by
 have gH:=G bH;have HA:=G hA;have HF:=G hF;clear hA hF bH;go_enter func88,ntmps88;go_wp2_with fail;go_loopw [8] (λiv wr=>∃i:Nat,iv=C D i/\i<=na/\(xs.take i).any p=X/\aj w w wr) (λiv _=>na-(intOf iv).toNat);case atStart=>exact⟨0,rfl,I,rfl,aN _ _⟩
 obtain⟨i,rfl,hi,hd,aH⟩:=hrel;obtain⟨wo,rfl⟩:=dz wr;have eP:=aH.size;by_cases aO:i<na;case neg=>exact alm
 have b3:(i:Int)<(na:Int):=I;have dA:i<xs.length:=by rw[gH.E];exact aO
 obtain⟨a0,a1,a2⟩:=(HA.below aH hg) i dA;have HC:=G (HF (xs.getD i ay) wo);have HY:af (p (xs.getD i ay)=Z->xs.any p=Z):=λh=>axk dA h;have HN:af (p (xs.getD i ay)=X->(xs.take (i+1)).any p=X):=λh=>axl dA hd h;unfold Xq at HC;clear dA hd;generalize xs.getD i ay=y at*;generalize p y=py at*;obtain⟨yo,ya,yb⟩:=y;simp only[] at HC a0 a1 a2;cases py;·have F:=G (HN rfl);clear HN HY;go_wp2_with fail;refine HC.mono ?_;rintro e' w1 ⟨rfl,hb⟩;have HB:=G (aU aH hb);clear hb aH a0 a1 a2;exact aln
 have F:=G (HY rfl);clear HN HY;go_wp2_with fail;refine HC.mono ?_;rintro e' w1 ⟨rfl,hb⟩;have HB:=G (aU aH hb);clear hb aH a0 a1 a2;go_wp2_with fail;go_ret;exact⟨i,rfl,Rq,HB⟩
theorem alo(h:R:=by go_wp2_with fail;refine HI.mono ?_;rintro e w1 ⟨r,rfl,hr,hb⟩;have F7:=G hr;clear hr;go_wp2_with fail;go_ret;exact⟨by rw[<-F7.E];rfl,hb⟩):R:=h
theorem axo(Fu:FuncId)(p:Ins->Bool)(oo:∀(args:Array ak) (w:Y),(callFunc Fu args).run aa w= .ok (.enter Fu args) w)(xs:List Ins)(g off na ca:Nat)(w:Y)(hA:um w g off xs)(bH:xs.length=na)(hg:g<w.heap.size)(jG:na<=1000000000)
  (hF:∀(y:Ins) (W:Y),aF aa Fu #[Xq y] W λe w'=>e=aI (p y)/\aj W W w'):
  aF aa 39 #[O (N ⟨g,off,J⟩) na ca,.func (.func Fu) #[] #[]] w λe w'=>e=aI (xs.any p)/\aj w w w':=by have HI:=G (axn Fu p oo xs g off na ca w hA bH hg jG hF);clear hA bH hF oo jG;go_enter func39,ntmps39;exact alo
theorem axp(args:Array ak)(w:Y):(callFunc 40 args).run aa w= .ok (.enter 40 args) w:=by simp[go_sem]
theorem axq(y:Ins)(w:Y):aF aa 40 #[Xq y] w λe w'=>e=aI (decide (y.op≠1))/\aj w w w':=by
 obtain⟨op,a,b⟩:=y;unfold Xq;simp only[];have sK:=(aN w w).alloc (aC _) (ag #[op,a,b] 142);rcases sU (op=1) with rfl|h;·go_enter func40,ntmps40;go_wp2_with fail;go_ret;exact⟨rfl,sK⟩
 have k1:(op !=1)=Z:=by simpa using h
 have k2:decide (op≠1)=Z:=CB;go_enter func40,ntmps40;go_wp2_with fail;go_ret;exact⟨by rw[k2];rfl,sK⟩
def Uc(x:mP):List ak:= [C D x.entry,C D x.line,C D x.bD,C D x.dM,C D x.partner,C D x.date,C D x.amount]
def EJ(l:List mP):List ak:=(l.map Uc).flatten
def QH(w:Y)(B:Nat)(v:ak)(l:List mP):Prop:=∃A n c,v=O A n c/\l.length=n/\n<=1000000000000/\Reads w B 7 A n (EJ l)
theorem QH.keep{l:List mP}(h:QH w B v l)(hk:∀p:aK,p.block<B->w'.cell? p=w.cell? p):QH w' B v l:=by obtain⟨A,n,c,e,h1,h2,h3⟩:=h;exact⟨A,n,c,e,h1,h2,h3.keep hk⟩
theorem QH.more{l:List mP}(h:QH w B v l)(hB:B<=B'):QH w B' v l:=by obtain⟨A,n,c,e,h1,h2,h3⟩:=h;exact⟨A,n,c,e,h1,h2,h3.more hB⟩
structure gF where
 s:lh
 nn:ak
 nm:ak
 dn:ak
 dm:ak
 it:ak
instance:Inhabited gF:=⟨⟨ay,ax X,O J 0 0,ax X,O J 0 0,O J 0 0⟩⟩
def gF.row(m:gF):List ak:= [C D m.s.bD,ax m.s.full,m.nn,m.nm,m.dn,m.dm,m.it]
def gF.ok(m:gF)(w:Y)(B:Nat):Prop:=bT w B m.nn m.nm m.s.sa/\bT w B m.dn m.dm m.s.sb/\0<m.s.sb/\m.s.sb<=1000/\m.s.sa.natAbs<=1000/\QH w B m.it m.s.items
theorem gF.ok.keep{m:gF}(h:m.ok w B)(hk:∀p:aK,p.block<B->w'.cell? p=w.cell? p):m.ok w' B:=⟨h.1.keep hk,h.2.1.keep hk,h.2.2.1,h.2.2.2.1,h.2.2.2.2.1,h.2.2.2.2.2.keep hk⟩
theorem gF.ok.below{m:gF}(h:m.ok w B)(hb:aj B w w'):m.ok w' B:=h.keep λ_ hp=>hb.cell hp
theorem gF.ok.more{m:gF}(h:m.ok w B)(hB:B<=B'):m.ok w B':=⟨h.1.more hB,h.2.1.more hB,h.2.2.1,h.2.2.2.1,h.2.2.2.2.1,h.2.2.2.2.2.more hB⟩
def OB(l:List gF):List ak:=(l.map gF.row).flatten
def Bf(w:Y)(B:Nat)(A:Option aK)(n:Nat)(l:List gF):Prop:=Reads w B 7 A n (OB l)/\∀m∈l,m.ok w B
theorem Bf.keep{l:List gF}(h:Bf w B A n l)(hk:∀p:aK,p.block<B->w'.cell? p=w.cell? p):Bf w' B A n l:=⟨h.1.keep hk,λm hm=>(h.2 m hm).keep hk⟩
theorem Bf.below{l:List gF}(h:Bf w B A n l)(hb:aj B w w'):Bf w' B A n l:=h.keep λ_ hp=>hb.cell hp
theorem alp(f:α->List ak)(hf:∀x,(f x).length=7):∀l:List α,((l.map f).flatten).length=l.length*7
 | []=>rfl
 |x::l=>by simp only[kE,Sr,eB,iP,hf,alp f hf l];omega
theorem alq(f:α->List ak)(hf:∀x,(f x).length=7):∀(l:List α) (k j:Nat) (d:α),k<l.length->j<7->((l.map f).flatten)[k*7+j]?=(f (l.getD k d))[j]?
 | [],k,j,d,hk,hj=>absurd hk aG
 |x::l,0,j,d,hk,hj=>by
  simp only[kE,Sr]
  rw[List.getElem?_append_left (by rw[hf];omega)]
  simp
 |x::l,k+1,j,d,hk,hj=>by
  simp only[kE,Sr]
  rw[List.getElem?_append_right (by rw[hf];omega),hf,show(k+1)*7+j-7=k*7+j from by omega]
  have:=alq f hf l k j d MR hj
  rw[this]
  simp
theorem Reads.seven{f:α->List ak}(hf:∀x,(f x).length=7){l:List α}(h:Reads w B 7 A n ((l.map f).flatten))(hk:k<n)(d:α):
  ∃ad,A=N ad/\ad.block<B/\∀j u,j<7->(f (l.getD k d))[j]?=N u->w.cell? (ad.add (k*7+j))=N u:=by
 obtain⟨ad,rfl,hb,hc⟩:=h.2 I;have hl:l.length=n:=by have:=h.1;rw[alp f hf] at this;omega
 exact⟨ad,rfl,hb,λj u hj hu=>hc _ _ (by rw[alq f hf l k j d I hj];exact hu)⟩
def ru(w:Y)(mb:Nat)(m:gF)(other:Int)(gL:ak)(pb:Nat)(sum:Int):Prop:=
 ai w mb 215 #[m.s.bD,m.s.full,m.nn,m.nm,m.dn,m.dm,m.it,other,gL,.map (N pb),sum]
def Xr(v:Int)(b:Bool):ak:=bz #[v,b]
end Go.Proofs.YtgnflmdpalmejaaGreatDoor
