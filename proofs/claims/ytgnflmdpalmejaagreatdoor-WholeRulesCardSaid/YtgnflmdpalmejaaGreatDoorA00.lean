/- Lemmas for the proof of WholeRules (the card is in the file ..WholeRulesCard); each lemma names its own conditions. -/
import Derived.Below
import Derived.BigFrame
import Derived.BigQuiet
import Derived.ChangeSame
import Derived.Deep.AppendLies
import Derived.Deep.Draws
import Derived.Deep.MidRow
import Derived.Deep.QuietTactic
import Derived.Deep.RegionHeld3
import Derived.Laws.BytesString
import Derived.Laws.OwnMore
import Derived.Laws.Rows
import Derived.Lib.Atoi
import Derived.Lib.Hide
import Derived.Lib.IndexMore
import Derived.Lib.ItoaLen
import Derived.Lib.ItoaMem
import Derived.Lib.ItoaNum
import Derived.Lib.LaidTab
import Derived.Lib.Space
import Derived.Lib.Strings
import Derived.LoopTactic
import Derived.Maps.AppendAt
import Derived.OpenShut
import Derived.Outline
import Derived.OwnWalk
import Derived.ProofKit
import Derived.RegionTactic
import Derived.Shelf.Vars
import Derived.Sort.Grow
import Derived.Stop.LaidErr
import Derived.Test.YtgnflmdpalmejaaGreatDoorProg
import Derived.Test.YtgnflmdpalmejaaGreatDoorShelf
import Derived.WalkKit
import Derived.WalkLawsBesides
import Derived.WalkSpells
namespace Go.Proofs.YtgnflmdpalmejaaGreatDoor
open Bool renaming and_true->RN,false->X,true->Z
open _root_.ByteArray renaming ext->KQ
open Go.Act renaming put->uB
open Go renaming Addr->aK,DataW->wm,MemPlace->Af,TypeId->bM,Value->ak,World->Y,run_underlying->G8,wpAnyH->yu
open Go.AllReadyH renaming cons->Hg,nil->RL
open Go.Ending renaming returned->aI
open Go.IntKind renaming i64->D
open Go.Lib renaming decDigits->M7
open Go.Obj renaming cells->ag
open Go.Oper renaming wp->yt
open Go.Region renaming ready->RJ,wanted->sZ
open Go.RowKit renaming Below->aj
open Go.RowKit.Below renaming heap_alloc->nK,heap_setCell->jm,refl->aN
open Go.Value renaming bool->ax,int->C,ownBlock->Hd,slice->O,string->au
open Go.World renaming cell?->M6,cell?_alloc_lt->Rn,cell?_of_block->He,setCell->Bp
open Inhabited renaming default->ay
open List renaming all_cons->zh,eq_nil_of_length_eq_zero->O0,foldl_cons->M8,getD->dO,getElem?_eq_getElem->wu,getElem?_map->xy,getElem_cons_succ->uE,getElem_cons_zero->uD,getElem_toArray->uC,map_cons->kE,mem_append->pW,setIfInBounds_toArray->pY,set_cons_succ->oP,set_cons_zero->oh,take_succ_eq_append_getElem->sD
open Nat renaming add_assoc->RH,eq_zero_or_pos->sw,le_trans->ja,lt_or_ge->jl
open Option renaming none->J,some->N
open UInt8 renaming ofNat->Ve
open Go.Proofs.Tryz renaming prog->aa
open Go.RowKit Go.Lib Go.Proofs.Tryz
set_option maxRecDepth 100000
set_option maxHeartbeats 32000000
variable{B base k n oO:Nat}{K:Act->Y->Prop}{L listed:Array Bool}{P:Program}{Q:Exit->Act->Y->Prop}{R:Prop}{W W' w w':Y}{e:bM}{o oi:Oper}{ops:Array Oper}{v:ak}{xs:List ak}
set_option linter.unusedVariables false
set_option linter.unusedSimpArgs false
theorem dz{α:Type}(a:α):∃b:α,b=a:=⟨a,rfl⟩
def af(p:Prop):Prop:=p
theorem af.E{p:Prop}(h:af p):p:=h
theorem G{p:Prop}(h:p):af p:=h
theorem znr:n<=n:=Nat.le_refl n
theorem zbr{w:World}:Below n w w:=Below.refl n w
theorem I(h:R:=by omega):R:=h
theorem bB(h:R:=by simp only[aW];omega):R:=h
theorem iN(h:R:=by first|rfl|simp[sZ,yielded]):R:=h
theorem fI(h:R:=by rw[decide_eq_false_iff_not];omega):R:=h
theorem aL(h:R:=by decide):R:=h
theorem bW(h:R:=by simp[intOf];omega):R:=h
theorem dY(h:R:=by simp only[];omega):R:=h
theorem aG(h:R:=by simp):R:=h
theorem iO(h:R:=by rw[beq_eq_false_iff_ne];omega):R:=h
theorem jO(h:R:=by rw[decide_eq_true_eq];omega):R:=h
theorem zT(h:R:=by have:=aB.size;simp only[aW] at this;omega):R:=h
theorem dh(h:R:=by kernel_rfl):R:=h
theorem lH(h:R:=by simp only[maxLen];omega):R:=h
theorem lI(h:R:=by have:=hW.size;omega):R:=h
theorem ic(h:R:=by rw[F.E];rfl):R:=h
theorem rY(h:R:=by show g<ws.heap.size;omega):R:=h
theorem bR(h:R:=by go_num):R:=h
theorem zU(h:R:=by have:=hq.1;intro e;injection e;omega):R:=h
theorem G5(h:R:=by rw[eB,mf];omega):R:=h
theorem KE(h:R:=by have:=fF.size;simp only[aW] at this;omega):R:=h
theorem abh(h:R:=by exact⟨(Bo.cell (by simp only[];omega)).trans x0,(Bo.cell (by simp only[];omega)).trans x1,(Bo.cell (by simp only[];omega)).trans x2,(Bo.cell (by simp only[];omega)).trans x3⟩):R:=h
theorem Cz(h:R:=by show w.heap.size<=w.heap.size+1;omega):R:=h
theorem G6(h:R:=by intro c r q;injection q with q _;subst q;decide):R:=h
theorem rZ(h:R:=by simp[Value.oneCell']):R:=h
theorem abj(h:R:=by(try simp only[G7,aW] at *);(try rw[E8]);(try simp only[G7,aW] at *);omega):R:=h
theorem qO(h:R:=by have:=hq.1;omega):R:=h
theorem OT(h:R:=by rw[E8];simp only[aW];have:=hq.2;omega):R:=h
theorem yj(h:R:=by intro e;injection e;omega):R:=h
theorem Yt(h:R:=by simp[Jq,G8 M.ht,KF hb,hc,h1,yl,M.hz]):R:=h
theorem OU(h:R:=by simp only[eB,mf];omega):R:=h
theorem MH(h:R:=by rw[E8];simp only[aW];omega):R:=h
theorem Rh(h:R:=by rw[oK];exact(aN _ _).alloc (aC _) _):R:=h
theorem UI(h:R:=by rw[hl,xq];exact ja (Nat.min_le_right _ _) (by decide)):R:=h
theorem Yu(h:R:=by have:=vZ.E;have h2:=Yv.E;rw[h2] at this;simp only[eB] at this |-;omega):R:=h
theorem uu(h:R:=by have:=hq.2;omega):R:=h
theorem UJ(h:R:=by rcases hm with rfl|rfl|rfl|rfl|rfl|rfl|rfl|rfl|rfl|rfl<;>decide):R:=h
theorem Ri(h:R:=by have:=aJ.size;simp only[aW] at this;omega):R:=h
theorem KG(h:R:=by rw[dF];simp only[aW]):R:=h
theorem Rj(h:R:=by have:=hq.1;simp only[aW] at this;omega):R:=h
theorem aeX(h:R:=by rw[dF];exact(((aN _ _).alloc (aC _) _).alloc (by simp only[aW];omega) _).alloc (by simp only[aW];omega) _):R:=h
theorem zV(h:R:=by simp[dO,hk]):R:=h
theorem Rk(h:R:=by have:=mV.E.sz;simp only[aW];omega):R:=h
theorem Rl(h:R:=by simp only[aW];have:=bC.size;omega):R:=h
theorem zW(h:R:=by rw[HL.E];exact aO):R:=h
theorem Rm(h:R:=by have:=hq.2;simp only[aW];omega):R:=h
theorem MJ(h:R:=by rintro e wx ⟨rfl,rfl⟩;exact⟨rfl,rfl⟩):R:=h
theorem OV(h:R:=by rw[bH,aeY];cases x<;>simp[Ex.ar]):R:=h
theorem UK(h:R:=by have:=HS.E.gl;have:=hq.1;intro e;injection e;omega):R:=h
theorem aeZ(h:R:=by exact⟨(Rn w2 _ ⟨mb,0,J⟩ KH).trans x0,(Rn w2 _ ⟨mb,7,J⟩ KH).trans x7⟩):R:=h
theorem Yw(h:R:=by rw[e,<-hk];exact qw.2 ⟨p,Jr h,rfl⟩):R:=h
theorem E9(h:R:=by rw[zX];omega):R:=h
theorem G9(h:R:=by rw[<-gH.E];exact aO):R:=h
theorem KJ(h:R:=by rw[MM];omega):R:=h
theorem abk(h:R:=by unfold jT at aX;simp only[bq,decide_eq_true_eq] at aX;exact aX.2):R:=h
theorem Js(h:R:=by have:=jc.E q hq;omega):R:=h
theorem Yx(h:R:=by have:=gD.size;simp only[aW] at this;omega):R:=h
theorem Yy(h:R:=by have:=lC.size;simp only[aW] at this;omega):R:=h
theorem Ro(h:R:=by intro e;have:=Jt e;omega):R:=h
theorem Rp(h:R:=by rw[gM];simp only[aW]):R:=h
theorem Yz(h:R:=by simp[results,results24,go_sem,y0,y1,y2,y3,y4,y5,y6]):R:=h
theorem ae0(h:R:=by rw[sj];exact((aN _ _).alloc (aC _) _).alloc (by simp only[aW];omega) _):R:=h
theorem abl(h:R:=by first|exact aH|exact below_drewN aH _|exact below_drewN (below_drewN aH _) _):R:=h
theorem UL(h:R:=by rw[FL.E,<-xw];exact HF.E.1):R:=h
theorem YA(h:R:=by rw[E8];(try simp only[aW]);omega):R:=h
theorem ae1(h:R:=by intro y hy;simp only[Ex.args,jZ,nJ,or_false] at hy;rcases hy with rfl|rfl<;>omega):R:=h
theorem KL(h:R:=by first|exact rfl|trivial):R:=h
theorem UM(h:R:=by show ai _ _ _ _;rw[oK];exact ai.new wo _ _):R:=h
theorem abm(h:R:=by(try simp only[G7,aW] at ze |-);omega):R:=h
theorem Fa(h:R:=by rw[hs];kernel_rfl):R:=h
theorem abn(h:R:=by(try simp only[G7,aW] at *);omega):R:=h
theorem UO(h:R:=by simp only[iP] at xx;omega):R:=h
theorem Ju(h:R:=by rw[<-gH.E];omega):R:=h
theorem OW(h:R:=by rw[xq];omega):R:=h
theorem Rq(h:R:=by rw[F.E,decide_eq_true_eq];omega):R:=h
theorem abo(h:R:=by rw[gM];exact(aN _ _).alloc (aC _) _):R:=h
theorem abp(h:R:=by rw[kg];exact(aN _ _).alloc (aC _) _):R:=h
theorem aCz(h:R:=by rw[KN.E];exact Jv DK.E (by simp[ji,dZ]) (by simp)):R:=h
theorem abq(h:R:=by rw[HLG.E];rintro(h|⟨h,h'⟩)<;>first|(cases h;done)|omega):R:=h
theorem ae2(h:R:=by intro y hy;simp only[Ex.args,jZ,nJ,or_false] at hy;subst hy;omega):R:=h
theorem UQ(h:R:=by have h0:wz.heap.size<=q:=hq.1;omega):R:=h
theorem UR(h:R:=by show w.heap.size≠w.heap.size+1;omega):R:=h
theorem abr(h:R:=by(show w6.heap.size<=_;simp only[wh];omega)):R:=h
theorem abt(h:R:=by have:=DL.size;simp only[aW] at this;omega):R:=h
theorem MN(h:R:=by simp only[cB,e];rfl):R:=h
theorem MO(h:R:=by simp only[Ex.sz];omega):R:=h
theorem ae3(h:R:=by exact⟨by simp[go_sem,X0],by simp[go_sem,X1],by simp[go_sem,X2],by simp[go_sem,X3]⟩):R:=h
theorem ae4(h:R:=by exact⟨by simp[go_sem,x0],by simp[go_sem,x1],by simp[go_sem,x2],by simp[go_sem,x3]⟩):R:=h
theorem CB(h:R:=by simpa using h):R:=h
theorem ae5(h:R:=by rw[hj];simp only[eB,iP,pV];omega):R:=h
theorem KO(h:R:=by first|rfl|go_num):R:=h
theorem YB(h:R:=by rw[uw];simp only[aW]):R:=h
theorem YC(h:R:=by rw[kg];simp only[aW]):R:=h
theorem MP(h:R:=by simp[ji,dZ]):R:=h
theorem YD(h:R:=by rw[oK];simp only[aW]):R:=h
theorem UT(h:R:=by rcases hw with rfl|rfl<;>decide):R:=h
theorem UU(h:R:=by rcases hm with rfl|rfl<;>decide):R:=h
theorem YE(h:R:=by(simp only[aW];omega)):R:=h
theorem abu(h:R:=by show(ad.add (k*4)).block<_;rw[zX];omega):R:=h
theorem UW(h:R:=by rw[beq_eq_false_iff_ne];exact h0):R:=h
theorem YF(h:R:=by rw[<-HN.E,HE.E,H3.E,H4.E];rfl):R:=h
theorem MQ(h:R:=by have:=hq.2.1;omega):R:=h
theorem abv(h:R:=by have:=hq.2.1;simp only[G7];omega):R:=h
theorem OX(h:R:=by simp[dO,dA]):R:=h
theorem Rs(h:R:=by show g<wo.heap.size;omega):R:=h
theorem ae6(h:R:=by rw[xy,hp];show N p.1=N k;rw[qx]):R:=h
theorem UX(h:R:=by rw[eB];omega):R:=h
theorem ae7(h:R:=by rw[eB,eB,mf];omega):R:=h
theorem KP(h:R:=by rw[HG.E,F.E]):R:=h
theorem Rt(h:R:=by show _=_;rw[<-Ha];rfl):R:=h
theorem OY(h:R:=by have:=aB.size;omega):R:=h
theorem abw(h:R:=by rintro e wx ⟨rfl,rfl⟩;exact⟨by rw[ae8],rfl⟩):R:=h
theorem ae9(h:R:=by rw[E8];(try simp only[aW]);have:=hq.2.1;omega):R:=h
theorem YG(h:R:=by show wo.heap.size<ws.heap.size;omega):R:=h
theorem UY(h:R:=by show q≠w.heap.size+1;omega):R:=h
theorem YH(h:R:=by simp only[iP];omega):R:=h
theorem Jw(h:R:=by simp[Act.eval]):R:=h
theorem aCA(h:R:=by have:0<aa.types.size:=of_decide_eq_true (by kernel_rfl);omega):R:=h
theorem afa(h:R:=by rw[E8];simp only[aW];have:=hq.2.1;omega):R:=h
theorem Ru(h:R:=by have:=HS.E.gl;omega):R:=h
theorem Fb(h:R:=by simp[intOf]):R:=h
theorem afb(h:R:=by rw[CE];exact(aN _ _).alloc (aC _) _):R:=h
theorem afc(h:R:=by rw[uw];exact(aN _ _).alloc (aC _) _):R:=h
theorem YI(h:R:=by unfold Addr.add;split<;>simp_all):R:=h
theorem YJ(h:R:=by rw[beq_eq_false_iff_ne];exact h3):R:=h
theorem YK(h:R:=by dsimp only[gN,X3,TM];exact anH):R:=h
theorem YL(h:R:=by dsimp only[gN,X2,TM];exact anI):R:=h
theorem YM(h:R:=by dsimp only[gN,X1,TM];exact anJ):R:=h
theorem YN(h:R:=by dsimp only[gN,X0,TM];exact anK):R:=h
theorem UZ(h:R:=by have:=aS.E.size;omega):R:=h
theorem afd(h:R:=by have:=qy.size;simp only[aW] at this;omega):R:=h
theorem afe(h:R:=by show _=_;unfold arity;rw[if_neg (by omega),if_neg (by omega)]):R:=h
theorem Fe(h:R:=by simp;omega):R:=h
theorem aff(h:R:=by have:=hb.size;simp only[aW] at this;omega):R:=h
theorem YO(h:R:=by rw[U0];exact h1):R:=h
theorem abx(h:R:=by rw[CE];simp only[aW]):R:=h
theorem aby(h:R:=by rw[ym];simp only[aW]):R:=h
theorem afg(h:R:=by rw[eB,mf,YP];omega):R:=h
theorem yn(h:R:=by cases q):R:=h
theorem afh(h:R:=by show _=_;unfold uy;simp only[];rw[if_pos (by omega)]):R:=h
theorem afi(h:R:=by simp only[bX,bq,decide_eq_true_eq];omega):R:=h
theorem abz(h:R:=by(show w6.heap.size<=w3.heap.size;omega)):R:=h
theorem afj(h:R:=by intro e;have:=Jt e;have:=su.E;omega):R:=h
theorem afk(h:R:=by rw[zX];simp only[aW];omega):R:=h
theorem U1(h:R:=by simp[dO,zY]):R:=h
theorem afl(h:R:=by show _<_;simp only[aW] at mK;omega):R:=h
theorem Rv(h:R:=by rw[<-bH];exact h):R:=h
theorem afm(h:R:=by have h:=own_below oL jk;simp only[hmo] at h |-;exact h):R:=h
theorem abA(h:R:=by rw[setRow_size];exact aC _):R:=h
theorem afn(h:R:=by have:=h.bl.size;simp only[aW];omega):R:=h
theorem afo(h:R:=by rw[eB,oM];exact dw):R:=h
theorem YQ(h:R:=by show _=_;rw[HEV.E,hev]):R:=h
theorem U2(h:R:=by simp[dO,hi]):R:=h
theorem afp(h:R:=by first|exact .inr ⟨hib,rfl⟩|exact .inr ⟨hib,trivial⟩):R:=h
theorem afq(h:R:=by have h:dZ op=2:=afr YR YS;rw[h];simp):R:=h
theorem MR(h:R:=by simpa using hk):R:=h
theorem MU(h:R:=by simpa using h1):R:=h
theorem afs(h:R:=by simp only[aW];rw[E8];omega):R:=h
theorem afu(h:R:=by rw[List.getElem?_take,if_pos (by omega)];exact HX.E):R:=h
theorem aft(h:R:=by have:=HTI.E;have:=HHL.E;have:=HPM.E;omega):R:=h
theorem abB(h:R:=by simpa[Hd] using he):R:=h
theorem U3(h:R:=by simp[dO,h]):R:=h
theorem U4(h:R:=by rw[HN.E];exact aO):R:=h
theorem Rw(h:R:=by rw[HN.E];omega):R:=h
theorem afv(h:R:=by rw[<-qx];rw[beq_eq_false_iff_ne] at iE;exact iE):R:=h
theorem YT(h:R:=by show _=_;rw[<-hxp];rfl):R:=h
theorem afw(h:R:=by simp[Jy,zg,Ex.args,List.intercalate]):R:=h
theorem afx(h:R:=by unfold nY;rw[if_neg (by omega),if_neg (by omega)]):R:=h
theorem abC(h:R:=by intro e;injection e;contradiction):R:=h
theorem afy(h:R:=by rw[wh];have:=h.ge.2;omega):R:=h
theorem abD(h:R:=by rw[beq_eq_false_iff_ne];exact h6):R:=h
theorem Rx(h:R:=by rw[bne,e1];rfl):R:=h
theorem Ry(h:R:=by rw[bne,e2];rfl):R:=h
theorem YU(h:R:=by rw[E8];exact hq.2):R:=h
theorem afz(h:R:=by have:=zZ.1;have:=uz.1;have:=DN.1;omega):R:=h
theorem afA(h:R:=by exact⟨by simp[go_sem,X0],by simp[go_sem,X1]⟩):R:=h
theorem Jz(h:R:=by assumption):R:=h
theorem abE(h:R:=by rw[YV];exact hn):R:=h
theorem Rz(h:R:=by rw[F2.E];rfl):R:=h
theorem YW(h:R:=by rw[gH.E];exact dA):R:=h
theorem YX(h:R:=by simp[dO,oN]):R:=h
theorem afB(h:R:=by show ai _ _ _ _;rw[gM];exact ai.new wo _ _):R:=h
theorem MW(h:R:=by cases e;rfl):R:=h
theorem afC(h:R:=by simp[dO,show k<l1.length by omega]):R:=h
theorem afD(h:R:=by show ai _ _ _ _;rw[kg];exact ai.new w _ _):R:=h
theorem abF(h:R:=by simp[sZ,Ff]):R:=h
theorem YY(h:R:=by rw[MX];exact aO):R:=h
theorem YZ(h:R:=by have:=aH.size;omega):R:=h
theorem afE(h:R:=by rw[<-qx];rw[beq_iff_eq] at iE;exact iE):R:=h
theorem afF(h:R:=by rcases hw with⟨rfl,_⟩|⟨rfl,_⟩<;>decide):R:=h
theorem afG(h:R:=by have:=hq.1;show q≠w.heap.size+1;omega):R:=h
theorem U5(h:R:=by rw[HL.E];omega):R:=h
theorem abG(h:R:=by rw[iF,Nat.add_mul];omega):R:=h
theorem Y0(h:R:=by first|rfl|trivial):R:=h
theorem abH(h:R:=by show qz [41]<1;decide):R:=h
theorem Y1(h:R:=by have:=dI.1;omega):R:=h
theorem Y2(h:R:=by rw[U6.E,FN.E]):R:=h
theorem abI(h:R:=by simp only[fK,e];rfl):R:=h
theorem abJ(h:R:=by rw[HG.E,F.E,gN.E]):R:=h
theorem Y3(h:R:=by have:=h.1;omega):R:=h
theorem Y4(h:R:=by rw[JA];rfl):R:=h
theorem U7(h:R:=by simpa using hc):R:=h
theorem U8(h:R:=by simpa using h6):R:=h
theorem U9(h:R:=by simpa using h7):R:=h
theorem Va(h:R:=by simp[dZ]):R:=h
theorem abK(h:R:=by rw[gH.E];exact h1):R:=h
theorem abL(h:R:=by have:=aJ.size;omega):R:=h
theorem abM(h:R:=by rw[tq.E];exact aO):R:=h
theorem abN(h:R:=by rw[hl];simp[Ex.args]):R:=h
theorem Y5(h:R:=by show b<_;omega):R:=h
theorem aCB(h:R:=by simp[go_sem,X0]):R:=h
theorem aCC(h:R:=by simp[go_sem,X1]):R:=h
theorem Y6(h:R:=by simp[go_sem,z1]):R:=h
theorem abO(h:R:=by exact⟨X0,X1,X2,X3⟩):R:=h
theorem RA(h:R:=by injection e):R:=h
theorem RD(h:R:=by rw[F.E]):R:=h
theorem RF(h:R:=by simp[val]):R:=h
theorem RG(h:R:=by simp[hk]):R:=h
theorem MZ(h:R:=by rw[e]):R:=h
instance:Coe Int ak:=⟨C D⟩
instance:Coe Nat ak:=⟨λk=>C D (k:Int)⟩
instance:Coe Bool ak:=⟨ax⟩
instance:Coe (List UInt8) ak:=⟨λl=>au ⟨l.toArray⟩⟩
instance:Coe Nat (Option aK):=⟨λg=>N ⟨g,0,J⟩⟩
instance:Coe Y Nat:=⟨λw=>w.heap.size⟩
section
open Go.WideShapes Go.ChangeShapes
theorem below_drewN{a:Y}(h:aj B a w)(n:Nat):aj B a (w.drewN n):=⟨h.os,h.tape,h.output,h.size,h.block⟩
theorem below_grow(w:Y)(os:Array Obj):aj w w (Sort.grow w os):=⟨rfl,rfl,rfl,aG,λk hk=>Sort.heap_grow_old w os hk⟩
theorem anL(h:∃k os,w'=Sort.grow (w.drewN k) os):aj w w w':=by obtain⟨k,os,rfl⟩:=h;exact(below_drewN (aN _ w) k).trans (below_grow (w.drewN k) os)
theorem aU{a b c:Y}(h:aj a a b)(k:aj b b c):aj a a c:=h.trans (k.mono h.size)
def NG:Nat:=7
structure Env(w:Y):Prop where
 size:NG<=w.heap.size
 tab:Lib.TabIs aa w "internal/strconv.uint64pow10" .u64 Lib.pow10Tab
 spc:Lib.TabIs aa w "strings.asciiSpace" .u8 Lib.asciiSpaceTab
 afH:∃m,w.cell? ⟨3,0,J⟩=N (C D m)
theorem afI{n:String}{g:Nat}{cs:Array ak}(hg:aa.globalNamed n=N g)(hh:w'.heap[g]?=w.heap[g]?)(h:w.var? aa n=N cs):w'.var? aa n=N cs:=by unfold World.var? at h |-;rw[hg] at h |-;simpa[hh] using h
theorem afJ:aa.globalNamed "internal/strconv.uint64pow10" =N 2:=by kernel_rfl
theorem afK:aa.globalNamed "strings.asciiSpace" =N 0:=by kernel_rfl
theorem Env.of_heap(h:Env w)(hs:NG<=w'.heap.size)(hh:∀k,k<NG->w'.heap[k]?=w.heap[k]?):Env w' where
 size:=hs
 tab:=afI afJ (hh _ aL) h.tab
 spc:=afI afK (hh _ aL) h.spc
 afH:=by obtain⟨m,hm⟩:=h.afH;exact⟨m,(He (w:=w) (w':=w') (a:=⟨3,0,J⟩) (hh _ aL)).trans hm⟩
theorem Env.below(h:Env w)(hb:aj B w w')(hB:NG<=B):Env w':=h.of_heap (ja h.size hb.size) λk hk=>hb.block k I
theorem Env.drew(h:Env w):Env w.drew:=h.of_heap h.size λ_ _=>rfl
theorem Env.drewN(h:Env w)(n:Nat):Env (w.drewN n):=h.of_heap h.size λ_ _=>rfl
theorem Env.after(h:Env w)(hb:aj w w w'):Env w':=h.below hb h.size
theorem post_of_below{H:Type}{enc:bM × ak->H}{f:Func}{s:ChangeSpec}{apart fresh handsOn again:Bool}{args:Array ak}{ds gs:List (wm H)}{before pa pv:List Af}
  (hW:DataW.Whole enc P f.params.toList s.vars apart W args.toList ds gs before)
  (kT:∀(b:Nat) (sp:Nat->Bool) (hd:Bool),DataW.TrodAll enc P W' b sp hd f.resultTypes.toList (v.resultList f.resultTypes.size) (s.fn H (ds++gs)).results [])
  (hargs:∀sp:Nat->Bool,(∀p∈before,sp p.block=Z)->DataW.TrodAll enc P W' 0 sp Z f.params.toList args.toList (s.fn H (ds++gs)).args pa)
  (hvars:∀sp:Nat->Bool,(∀p∈before,sp p.block=Z)->DataW.TrodVars enc P W' sp s.vars (s.fn H (ds++gs)).vars pv)
  (og:before=pa++pv) (hb:aj W W W')
  (aX:∀(j:Nat) (t:bM) (r:ak),f.resultTypes[j]?=N t->(v.resultList f.resultTypes.size)[j]?=N r->Value.okWide P W' .any 0 t r):
  s.post enc P f apart fresh handsOn again W args v W':=by
 have aO:∀p∈before,p.block<W.heap.size:=λp hp=>hW.lt p hp;have hold:∀p∈before,(λb=>decide (b<W.heap.size)) p.block=Z:=λp hp=>by simpa using aO p hp
 refine⟨ds,gs,before,[],pa,pv,hW,kT _ _ _,hargs _ hold,hvars _ hold,World.keptBut_mono (λp hp=>⟨hp,?_⟩) (hb.frame (· ∈before)),λ_=>?_⟩;·rw[og,pW] at hp;exact Or.inr hp
 obtain⟨_,_,_,_,_,hz,hn⟩:=hW;refine⟨aX,_,_,([]++pa)++pv,⟨[]++pa,pv,trodAll_append (hargs _ (λ_ _=>rfl)) (kT _ _ _),hvars _ (λ_ _=>rfl),rfl,?_,?_⟩,?_⟩
 ·intro b off hp;have ig:MemPlace.cell b off∈before:=by rw[og];simpa using hp
  rw[hb.frozen (aO _ ig)];exact hz b off ig
 ·intro ha;have:=hn ha;rw[og] at this;simpa using this
 intro p hp _;rw[og];simpa using hp
theorem trodAll_stays{H:Type}{enc:bM × ak->H}(hl:laidOutB P=Z){sp:Nat->Bool}:
  ∀ {ts:List bM} {vs:List ak} {ds:List (wm H)} {ps:List Af},(∀t∈ts,P.readableRec t=Z/\t<P.types.size)->
   DataW.TrodAll enc P W 0 (λ_=>Z) Z ts vs ds ps->(∀x∈ps,W.sameAt W' x)->(∀x∈ps,sp x.block=Z)->DataW.TrodAll enc P W' 0 sp Z ts vs ds ps:=by
 intro ts;induction ts with
 |nil=>intro vs ds ps _ h _ _;obtain⟨rfl,rfl,rfl⟩:=trodAll_nil h;exact trodAll_mk0
 |cons t ts ih=>
  intro vs ds ps hr h hs hp;obtain⟨v0,vs0,d0,ds0,p0,q0,rfl,rfl,rfl,h0,r0⟩:=trodAll_cons h;obtain⟨h1,h2⟩:=hr t aG;exact trodAll_cons_mk (WideElems.Trod_stays hl h1 h2 h0 (λx hx=>hs x (by simp[hx])) (λx hx=>hp x (by simp[hx])))
   (ih (λu hu=>hr u (by simp[hu])) r0 (λx hx=>hs x (by simp[hx])) (λx hx=>hp x (by simp[hx])))
theorem shaped_size(h:W.ShapedOpen aa):NG<=W.heap.size:=by
 have hz:(((begin aa (λ_ _=>0) ay).world.heap[NG-1]?).bind Obj.row?).isSome=Z:=dh;obtain⟨⟨z,t⟩,hz⟩:=Option.isSome_iff_exists.1 hz;obtain⟨cs,hc,_⟩:=h.1 (NG-1) z t (of_decide_eq_true dh) hz;have:NG-1<W.heap.size:=by
  rcases jl (NG-1) W with h|h;·exact h
  rw[Array.getElem?_eq_none h] at hc;cases hc
 unfold NG at this |-;omega
theorem maxLen_of(h:W.ShapedOpen aa):∃m,W.cell? ⟨3,0,J⟩=N (C D m):=Go.Proofs.cell_of_shapedOpen_int (zero:=#[C D 0]) (t:=3) h (of_decide_eq_true dh) dh rfl dh dh underlying3
theorem laidOut:laidOutB aa=Z:=by kernel_rfl
end
section
open Go.ChangeShapes
theorem zX(a:aK)(n:Nat):(a.add n).block=a.block:=by unfold Addr.add;split<;>rfl
theorem mW(a:aK)(i j:Nat):(a.add i).add j=a.add (i+j):=by unfold Addr.add;by_cases hi:i=0<;>by_cases hj:j=0<;>simp[hi,hj,RH]
def Reads(w:Y)(B size:Nat)(A:Option aK)(n:Nat)(xs:List ak):Prop:=
 xs.length=n*size/\(0<n->∃ad,A=N ad/\ad.block<B/\∀j u,xs[j]?=N u->w.cell? (ad.add j)=N u)
section
variable{w w':Y}{B B' size n:Nat}{A:Option aK}{xs:List ak}
theorem Reads.none_:Reads w B size A 0 []:=⟨aG,λh=>absurd h I⟩
theorem Reads.at_(h:Reads w B 1 A n xs)(hk:k<n):∃ad u,A=N ad/\ad.block<B/\xs[k]?=N u/\w.cell? (ad.add k)=N u:=by obtain⟨ad,e,hb,hc⟩:=h.2 I;have hl:k<xs.length:=Y3;exact⟨ad,xs[k],e,hb,wu hl,hc k _ (wu hl)⟩
theorem Reads.keep(h:Reads w B size A n xs)(hk:∀p:aK,p.block<B->w'.cell? p=w.cell? p):Reads w' B size A n xs:=⟨h.1,λhn=>by obtain⟨ad,e,hb,hc⟩:=h.2 hn;exact⟨ad,e,hb,λj u hu=>(hk _ (by rw[zX];exact hb)).trans (hc j u hu)⟩⟩
theorem Reads.more(h:Reads w B size A n xs)(hB:B<=B'):Reads w B' size A n xs:=⟨h.1,λhn=>by obtain⟨ad,e,hb,hc⟩:=h.2 hn;exact⟨ad,e,I,hc⟩⟩
theorem Reads.below(h:Reads w B size A n xs)(hb:aj B w w'):Reads w' B size A n xs:=h.keep λ_ hp=>hb.cell hp
theorem Reads.drew(h:Reads w B size A n xs):Reads w.drew B size A n xs:=h
theorem Reads.drewN(h:Reads w B size A n xs)(k:Nat):Reads (w.drewN k) B size A n xs:=h
theorem Reads.alloc(h:Reads w B size A n xs)(hB:B<=w.heap.size)(o:Obj):Reads (w.alloc o) B size A n xs:=h.keep λp hp=>Rn w o p I
theorem Reads.setCell(h:Reads w B size A n xs){p:aK}(hB:B<=p.block)(u:ak):Reads (w.setCell p u) B size A n xs:=h.keep λq hq=>World.cell?_setCell_other w p q u (λe=>by subst e;omega)
theorem Reads.grown(h:Reads w B size A n xs){row:Option Nat}(hg:w.grownBy w' row)(hB:B<=w.heap.size)(hr:∀g,row=N g->B<=g):Reads w' B size A n xs:=h.keep λp hp=>He (hg.block p.block I (λe=>by have:=hr _ e.symm;omega))
theorem Reads.uA{c:Nat}(h:w.ownsRow base e size (O A n c) n xs):Reads w w size A n xs:=by
 refine⟨h.1,λhn=>?_⟩;obtain⟨g,cap,hv,_,aO⟩:=h.form hn;have hA:A=N ⟨g,0,J⟩:=by injection hv
 subst hA;exact⟨_,rfl,aO,h.cells (g:=g) rfl⟩
end
def ai(w:Y)(g:Nat)(t:bM)(cs:Array ak):Prop:=w.heap[g]?=N (ag cs t (0,0))
section
variable{w w':Y}{g:Nat}{t:bM}{cs:Array ak}
theorem ai.lt(h:ai w g t cs):g<w.heap.size:=by
 rcases jl g w with aO|DR;·exact aO
 unfold ai at h;rw[Array.getElem?_eq_none DR] at h;cases h
theorem ai.cell(h:ai w g t cs)(i:Nat):w.cell? ⟨g,i,J⟩=cs[i]?:=cell_of_row w g i cs t (0,0) h
theorem ai.frozen(h:ai w g t cs)(i:Nat):w.frozen? ⟨g,i,J⟩=X:=by unfold ai at h;simp[World.frozen?,h]
theorem ai.new(w:Y)(t:bM)(cs:Array ak):ai (w.alloc (ag cs t)) w t cs:=heap_alloc_new w _
theorem ai.drew(h:ai w g t cs):ai w.drew g t cs:=h
theorem ai.drewN(h:ai w g t cs)(n:Nat):ai (w.drewN n) g t cs:=h
theorem ai.alloc(h:ai w g t cs)(o:Obj):ai (w.alloc o) g t cs:=(nK w o g h.lt).trans h
theorem ai.bL(h:ai w g t cs)(i:Nat)(u:ak):ai (w.setCell ⟨g,i,J⟩ u) g t (cs.setIfInBounds i u):=by unfold ai at h |-;simp[Bp,Array.getElem?_modify,h]
theorem ai.far(h:ai w g t cs){p:aK}(hp:g≠p.block)(u:ak):ai (w.setCell p u) g t cs:=(jm w p u g hp).trans h
theorem ai.below(h:ai w g t cs)(hb:aj B w w')(hg:g<B):ai w' g t cs:=(hb.block g hg).trans h
theorem ai.grown{row:Option Nat}(h:ai w g t cs)(hb:w.grownBy w' row)(hg:N g≠row):ai w' g t cs:=(hb.block g h.lt hg).trans h
theorem ai.OZ{g':Nat}{t':bM}{cs':Array ak}(h:ai w g t cs)(h':ai w g' t' cs')(aY:t≠t'):g≠g':=by rintro rfl;unfold ai at h h';rw[h] at h';injection h' with h';injection h' with _ ht;exact aY ht
theorem iQ{size:Nat}(h:w.ownsRow base e size v n xs)(hg:ai w g t cs)(aY:e≠t):v.ownBlock≠N g:=by
 rcases h.2 with⟨rfl,_⟩|⟨g',cap,cur,rfl,_,hh,_⟩;·simp[Hd]
 intro he;have:g'=g:=abB;subst this;exact ai.OZ (t:=e) hh hg aY rfl
end
section
variable{P:Program}(w:Y)
theorem anM(base:Nat)(t ty e:bM)(i:TypeInfo)(size:Nat)(ht:P.underlying t=N (.slice e))(hi:P.info? e=N i)
  (v:ak) (n:Nat) (xs:List ak) (aV:w.ownsRow base e size v n xs) (c:Nat):(Builtin.append_ #[t,t] ty #[v,O J 0 c]).run P w= .ok v w:=by
 rcases aV.2 with⟨rfl,rfl⟩|⟨g,cap,cur,rfl,_,_,DT,_⟩;·simp[Builtin.append_,G8 ht,sizeOf,typeInfo,hi,Builtin.lenOf,Builtin.firstCells]
 simp[Builtin.append_,G8 ht,sizeOf,typeInfo,hi,Builtin.lenOf,Builtin.firstCells,DT,storeCells]
theorem anN(base:Nat)(t ty e:bM)(i:TypeInfo)(z:ak)(size bytes:Nat)(ht:P.underlying t=N (.slice e))(hi:P.info? e=N i)(hz:i.zero=N z)
  (hsize:i.size=size) (Bq:i.bytes=bytes) (DU:z.cells.size=size) (bV:0<size)
  (v:ak) (n:Nat) (xs:List ak) (aV:w.ownsRow base e size v n xs)
  (B:Nat) (A:Option aK) (m c:Nat) (ko:List ak) (hr:Reads w B size A m ko) (h1:∀u∈ko,u.oneCell'=Z)
  (Fg:n+m<=maxLen) (DV:(n+m)*bytes<=140737488355328) (hbase:base<=w.heap.size):
  ∃v' w',(Builtin.append_ #[t,t] ty #[v,O A m c]).run P w= .ok v' w'/\w'.ownsRow base e size v' (n+m) (xs++ko)/\w.grownBy w' v.ownBlock/\
   (v'.ownBlock=v.ownBlock\/v'.ownBlock=N w):=by
 rcases A with _|ad
 ·have hm:m=0:=by
   rcases sw m with h0|h0
   ·exact h0
   obtain⟨ad,h,_⟩:=hr.2 h0
   cases h
  subst hm
  have hn:ko= []:=O0 (by simpa using hr.1)
  subst hn
  exact⟨v,w,anM w base t ty e i size ht hi v n xs aV c,by simpa using aV,World.grownBy.refl w _,.inl rfl⟩
 have hcells:∀j u,ko[j]?=N u->w.cell? (ad.add j)=N u:=by
  intro j u hu;rcases sw m with h0|h0;·subst h0;have hn:ko= []:=O0 (by simpa using hr.1);subst hn;simp at hu
  obtain⟨Hf,h,_,hc⟩:=hr.2 h0;injection h with h;subst h;exact hc j u hu
 obtain⟨v',w',gu,h2,h3,_,h5⟩:=run_append_own_at (P:=P) w base t ty e i z size bytes ht hi hz hsize Bq DU bV v n xs aV ad m c ko hr.1 hcells h1 Fg DV hbase;exact⟨v',w',gu,h2,h3,h5⟩
theorem Y7{a:Act}(s x:Operand)(t:bM)
  (ho:o.op= .call {callee:= .builtin .append,args:=#[s,x],argTypes:=#[t,t]})
  (base:Nat) (e:bM) (i:TypeInfo) (z:ak) (size bytes:Nat) (ht:P.underlying t=N (.slice e)) (hi:P.info? e=N i) (hz:i.zero=N z)
  (hsize:i.size=size) (Bq:i.bytes=bytes) (DU:z.cells.size=size) (bV:0<size)
  (v:ak) (n:Nat) (xs:List ak) (hs:a.eval s=v) (aV:w.ownsRow base e size v n xs)
  (B:Nat) (A:Option aK) (m c:Nat) (ko:List ak) (hx:a.eval x=O A m c) (hr:Reads w B size A m ko) (h1:∀u∈ko,u.oneCell'=Z)
  (Fg:n+m<=maxLen) (DV:(n+m)*bytes<=140737488355328) (hbase:base<=w.heap.size)
  (h:∀v' w',w'.ownsRow base e size v' (n+m) (xs++ko)->w.grownBy w' v.ownBlock->(v'.ownBlock=v.ownBlock\/v'.ownBlock=N w.heap.size)->K (a.put o.dst v') w'):o.wp P a w K Q:=by obtain⟨v',w',gu,h2,h3,h4⟩:=anN (P:=P) w base t o.type e i z size bytes ht hi hz hsize Bq DU bV v n xs aV B A m c ko hr h1 Fg DV hbase;unfold yt execOp;simp only[ho,resolve,invoke,builtin,Sem.run_bind,Sem.run_pure,Result.andThen_ok,List.map_toArray,kE,List.map_nil,hs,hx,gu];exact h v' w' h2 h3 h4
theorem pX{rest:List Oper}{a:Act}(Ff:o.guard=J)(s x:Operand)(t:bM)
  (ho:o.op= .call {callee:= .builtin .append,args:=#[s,x],argTypes:=#[t,t]})
  (base:Nat) (e:bM) (i:TypeInfo) (z:ak) (size bytes:Nat) (ht:P.underlying t=N (.slice e)) (hi:P.info? e=N i) (hz:i.zero=N z)
  (hsize:i.size=size) (Bq:i.bytes=bytes) (DU:z.cells.size=size) (bV:0<size)
  (v:ak) (n:Nat) (xs:List ak) (hs:a.eval s=v) (aV:w.ownsRow base e size v n xs)
  (B:Nat) (A:Option aK) (m c:Nat) (ko:List ak) (hx:a.eval x=O A m c) (hr:Reads w B size A m ko) (h1:∀u∈ko,u.oneCell'=Z)
  (Fg:n+m<=maxLen) (DV:(n+m)*bytes<=140737488355328) (hbase:base<=w.heap.size)
  (h:∀v' w',w'.ownsRow base e size v' (n+m) (xs++ko)->w.grownBy w' v.ownBlock->(v'.ownBlock=v.ownBlock\/v'.ownBlock=N w.heap.size)->wpList P ops Q rest (a.put o.dst v') w'):wpList P ops Q (o::rest) a w:=wpList_plain Ff λ_ hK=>Y7 w s x t ho base e i z size bytes ht hi hz hsize Bq DU bV v n xs hs aV B A m c ko hx hr h1 Fg DV hbase λv' w' h2 h3 h4=>hK _ _ (h v' w' h2 h3 h4)
theorem Y8{a:Act}{Fh:Prop}(Ff:o.guard=J)(s x:Operand)(t:bM)
  (ho:o.op= .call {callee:= .builtin .append,args:=#[s,x],argTypes:=#[t,t]})
  (base:Nat) (e:bM) (i:TypeInfo) (z:ak) (size bytes:Nat) (ht:P.underlying t=N (.slice e)) (hi:P.info? e=N i) (hz:i.zero=N z)
  (hsize:i.size=size) (Bq:i.bytes=bytes) (DU:z.cells.size=size) (bV:0<size)
  (v:ak) (n:Nat) (xs:List ak) (hs:a.eval s=v) (aV:w.ownsRow base e size v n xs)
  (B:Nat) (A:Option aK) (m c:Nat) (ko:List ak) (hx:a.eval x=O A m c) (hr:Reads w B size A m ko) (h1:∀u∈ko,u.oneCell'=Z)
  (Fg:n+m<=maxLen) (DV:(n+m)*bytes<=140737488355328) (hbase:base<=w.heap.size)
  (h:∀v' w',w'.ownsRow base e size v' (n+m) (xs++ko)->w.grownBy w' v.ownBlock->(v'.ownBlock=v.ownBlock\/v'.ownBlock=N w.heap.size)->K (a.put o.dst v') w'):
  if sZ o (yielded ops a.tmps)=Z then yt P o a w K Q else Fh:=by have hw:sZ o (yielded ops a.tmps)=Z:=abF;rw[if_pos hw];exact Y7 w s x t ho base e i z size bytes ht hi hz hsize Bq DU bV v n xs hs aV B A m c ko hx hr h1 Fg DV hbase h
end
theorem Reads.anO{A:Option aK}{zs:List Int}(h:Reads w B 1 A n (zs.map (C D)))(hk:k<n):
  ∃ad,A=N ad/\ad.block<B/\w.cell? (ad.add k)=N (C D (zs.getD k 0)):=by
 obtain⟨ad,u,rfl,hb,hx,hc⟩:=h.at_ hk;refine⟨ad,rfl,hb,hc.trans ?_⟩;rw[xy] at hx;cases hz:zs[k]? with
 |none=>rw[hz] at hx;cases hx
 |some z=>rw[hz] at hx;simp at hx;rw[<-hx];simp[dO,hz]
theorem block_lt{a:aK}(h:w.cell? a=N v):a.block<w.heap.size:=by
 rcases jl a.block w with hl|hl;·exact hl
 unfold M6 at h;rw[Array.getElem?_eq_none hl] at h;cases h
end
section
open Go.ChangeShapes
theorem Vb{a:Y}(h:aj a a w)(row:Option Nat):a.grownBy w row:=⟨h.os,h.tape,h.output,h.size,λi hi _=>h.block i hi⟩
section
variable{w w':Y}{base n size:Nat}{e:bM}{v:ak}{xs:List ak}
theorem own_below(h:w.ownsRow base e size v n xs)(hb:aj w w w'):w'.ownsRow base e size v n xs:=h.kept (Vb hb J) (by cases v.ownBlock<;>simp)
theorem eO(h:w.ownsRow base e size v n xs):∃A c,v=O A n c:=by
 obtain⟨_,h⟩:=h;rcases h with⟨rfl,rfl⟩|⟨g,cap,cur,rfl,_⟩;·exact⟨_,_,rfl⟩
 exact⟨_,_,rfl⟩
theorem lJ(h:w.ownsRow base e size v n xs):∀k,v.ownBlock=N k->base<=k:=by
 intro k hk;obtain⟨_,h⟩:=h;rcases h with⟨rfl,rfl⟩|⟨g,cap,cur,rfl,hb,_⟩;·cases hk
 cases hk;exact hb
theorem Vd(h:w.ownsRow base e size v n xs):∀k,v.ownBlock=N k->k<w.heap.size:=by
 intro k hk;obtain⟨_,h⟩:=h;rcases h with⟨rfl,rfl⟩|⟨g,cap,cur,rfl,_,hh,_⟩;·cases hk
 obtain rfl:g=k:=by simpa[Hd] using hk
 rcases jl g w with hl|hl;·exact hl
 rw[Array.getElem?_eq_none hl] at hh;cases hh
theorem Fj{b':Nat}(h:w.ownsRow base e size v n xs)(hb:b'<=base):w.ownsRow b' e size v n xs:=by
 obtain⟨h1,h⟩:=h;refine⟨h1,?_⟩;rcases h with h|⟨g,cap,cur,h2,h3,h4⟩;·exact .inl h
 exact .inr ⟨g,cap,cur,h2,I,h4⟩
end
theorem mX(w:Y)(cs:Array ak)(T:bM)(size:Nat)(h:cs.size=1*size):Reads (w.alloc (ag cs T)) (w.heap.size+1) size (N ⟨w,0,J⟩) 1 cs.toList:=by refine⟨CB,λ_=>⟨_,rfl,Nat.lt_succ_self _,λj u hj=>?_⟩⟩;have hb:=ai.new w T cs;have e:(⟨w,0,J⟩:aK).add j=⟨w,j,J⟩:=YI;rw[e,hb.cell j,<-hj];simp
end
section
open Go.ChangeShapes
end
theorem tu{T:bM}{size:Nat}{x:ak}(h:W.ownsRow base T size x n xs)(hg:W.grownBy W' x.ownBlock)(hb:base<=W.heap.size):aj base W W':=⟨hg.os,hg.tape,hg.output,hg.size,λk hk=>hg.block k I (λe=>by have:=lJ h k e.symm;omega)⟩
section
variable{P:Program}{ops:Array Oper}{Q:Exit->Act->Y->Prop}{md:Region.Mode}{S:Y->Prop}
theorem aA(i:Nat){a a':Act}(h:yu P md ops Q S oO L a' w)(hi:ops[i]?=N oi:=by rfl)
  (hs:Region.noSelect ops=Z:=by kernel_rfl) (hf:Region.free md ops listed i=Z:=by kernel_rfl) (hr:(RJ md ops listed).contains i=Z:=by kernel_rfl)
  (hy:YieldsIf P ops S oi v a:=by exact Or.inl ⟨by rfl,by intro w_ Fq;(try dsimp only at Fq);(try cases Fq);(try go_split_ands);go_simp;(try with_reducible rfl)⟩)
  (hS:S w:=by assumption) (hQ:∀c a w,Q (.panic c) (a.put oi.dst v) w->Q (.panic c) a w:=by exact λ_ _ _ h=>h)
  (hL:listed.setIfInBounds i Z=L:=by rfl)
  (ha:a.put oi.dst v=a':=by simp only[uB,pY,oh,oP,uC,uD,uE];rfl):yu P md ops Q S (oO+1) listed a w:=wpAnyH_take hi hs hf hr hQ hy hS (by rw[hL,ha];exact h)
theorem tC(i:Nat){a a':Act}(h:yu P md ops Q S oO L a' w)(hi:ops[i]?=N oi:=by rfl)
  (hs:Region.noSelect ops=Z:=by kernel_rfl) (hf:Region.free md ops listed i=Z:=by kernel_rfl) (hr:(RJ md ops listed).contains i=Z:=by kernel_rfl)
  (hy:sZ oi (yielded ops a.tmps)=X:=by rfl)
  (hS:S w:=by assumption) (hQ:∀c a w,Q (.panic c) (a.put oi.dst undef) w->Q (.panic c) a w:=by exact λ_ _ _ h=>h)
  (hL:listed.setIfInBounds i Z=L:=by rfl)
  (ha:a.put oi.dst undef=a':=by simp only[uB,pY,oh,oP,uC,uD,uE];rfl):yu P md ops Q S (oO+1) listed a w:=wpAnyH_take hi hs hf hr hQ (.inr ⟨hy,rfl⟩) hS (by rw[hL,ha];exact h)
theorem bK(i:Nat){a:Act}
  (h:∀K':Act->Y->Prop,Shut (∀a w,S w->(S w->yu P md ops Q S oO (listed.setIfInBounds i Z) a w)->K' a w)->if sZ o (yielded ops a.tmps)=Z then yt P o a w K' Q else K' (a.put o.dst undef) w)
  (hi:ops[i]?=N o:=by rfl) (hr:RJ md ops listed= [i]:=by kernel_rfl):yu P md ops Q S (oO+1) listed a w:=wpAnyH_ready hr aG (Hg hi h RL)
theorem uF(i j:Nat){o':Oper}{a:Act}
  (h:∀K':Act->Y->Prop,Shut (∀a w,S w->(S w->yu P md ops Q S oO (listed.setIfInBounds i Z) a w)->K' a w)->if sZ o (yielded ops a.tmps)=Z then yt P o a w K' Q else K' (a.put o.dst undef) w)
  (h':∀K':Act->Y->Prop,Shut (∀a w,S w->(S w->yu P md ops Q S oO (listed.setIfInBounds j Z) a w)->K' a w)->if sZ o' (yielded ops a.tmps)=Z then yt P o' a w K' Q else K' (a.put o'.dst undef) w)
  (hi:ops[i]?=N o:=by rfl) (hj:ops[j]?=N o':=by rfl) (hr:RJ md ops listed= [i,j]:=by kernel_rfl):yu P md ops Q S (oO+1) listed a w:=wpAnyH_ready hr aG (Hg hi h (Hg hj h' RL))
theorem Y9(i j k:Nat){o' o3:Oper}{a:Act}
  (h:∀K':Act->Y->Prop,Shut (∀a w,S w->(S w->yu P md ops Q S oO (listed.setIfInBounds i Z) a w)->K' a w)->if sZ o (yielded ops a.tmps)=Z then yt P o a w K' Q else K' (a.put o.dst undef) w)
  (h':∀K':Act->Y->Prop,Shut (∀a w,S w->(S w->yu P md ops Q S oO (listed.setIfInBounds j Z) a w)->K' a w)->if sZ o' (yielded ops a.tmps)=Z then yt P o' a w K' Q else K' (a.put o'.dst undef) w)
  (h3:∀K':Act->Y->Prop,Shut (∀a w,S w->(S w->yu P md ops Q S oO (listed.setIfInBounds k Z) a w)->K' a w)->if sZ o3 (yielded ops a.tmps)=Z then yt P o3 a w K' Q else K' (a.put o3.dst undef) w)
  (hi:ops[i]?=N o:=by rfl) (hj:ops[j]?=N o':=by rfl) (hk:ops[k]?=N o3:=by rfl) (hr:RJ md ops listed= [i,j,k]:=by kernel_rfl):yu P md ops Q S (oO+1) listed a w:=wpAnyH_ready hr aG (Hg hi h (Hg hj h' (Hg hk h3 RL)))
end
section
variable{P:Program}{ops:Array Oper}{Q:Exit->Act->Y->Prop}{md:Region.Mode}{S:Y->Prop}
theorem bF{a a':Act}(hK:Shut (∀a w,S w->(S w->yu P md ops Q S oO L a w)->K a w))(hS:S w)(h:S w->yu P md ops Q S oO L a' w)
  (ha:a=a':=by first|(simp only[uB,pY,oh,oP,uC,uD,uE];rfl)|rfl):K a w:=hK.out _ _ hS (λhs=>by rw[ha];exact h hs)
theorem gI{a:Act}(h:Q .normal a w)(hr:RJ md ops listed= []:=by kernel_rfl):yu P md ops Q S oO listed a w:=wpAnyH_done hr h oO
end
def jo(b:UInt8):Bool:=decide (48<=b.toNat)&&decide (b.toNat<=57)
def isNum(l:List UInt8):Bool:=l.all jo&& !l.isEmpty
def p9(l:List UInt8):Nat:=l.foldl (λn b=>n*10+(b.toNat-48)) 0
theorem Za{b:UInt8}:jo b=Z↔48<=b.toNat/\b.toNat<=57:=by simp[jo]
theorem afL(l:List UInt8)(b:UInt8):p9 (l++ [b])=p9 l*10+(b.toNat-48):=by simp[p9]
theorem MX(l:List UInt8):(⟨l.toArray⟩:ByteArray).size=l.length:=by simp[ByteArray.size]
theorem anP(l:List UInt8)(k:Nat)(h:k<(⟨l.toArray⟩:ByteArray).size)(h':k<l.length):(⟨l.toArray⟩:ByteArray)[k]'h=l[k]:=rfl
theorem JB(l:List UInt8)(k:Nat)(h:k<(⟨l.toArray⟩:ByteArray).size):(⟨l.toArray⟩:ByteArray)[k]'h=l.getD k 0:=by
 have h':k<l.length:=by rwa [MX] at h
 rw[anP l k h h'];simp[dO,h']
theorem anQ{p:UInt8->Bool}{l:List UInt8}(hk:k<l.length)(h:(l.take k).all p=Z)(h':p (l.getD k 0)=Z):(l.take (k+1)).all p=Z:=by rw[sD hk,List.all_append,h];have:l[k]=l.getD k 0:=zV;simp only[zh,List.all_nil,this,h',RN]
theorem afM{m:Nat}(h:10<=m):M7 m=M7 (m/10)++ [Ve (48+m%10)]:=by rw[M7,dif_neg I]
theorem afN(m:Nat):1<=(M7 m).length:=by rw[decDigits_length];exact nDigits_pos m
theorem Zb{d:Nat}(h:d<10):jo (Ve (48+d))=Z/\(Ve (48+d)).toNat=48+d:=by have:(Ve (48+d)).toNat=48+d:=Fe;exact⟨Za.2 I,this⟩
theorem afO(m:Nat):(M7 m).all jo=Z:=by
 induction m using Nat.strongRecOn with
 |_ m ih=>
  by_cases h:m<10;·rw[decDigits_one h,zh,(Zb h).1];rfl
  rw[afM I,List.all_append,ih _ I];rw[zh,(Zb (show m%10<10 by omega)).1];rfl
theorem anR(m:Nat):isNum (M7 m)=Z:=by
 unfold isNum;rw[afO];have:=afN m;cases h:M7 m with
 |nil=>rw[h] at this;simp at this
 |cons=>rfl
theorem anS(m:Nat):p9 (M7 m)=m:=by
 induction m using Nat.strongRecOn with
 |_ m ih=>
  by_cases h:m<10;·rw[decDigits_one h];have:=(Zb h).2;simp only[p9,M8,List.foldl_nil,this];omega
  rw[afM I,afL,ih _ I,(Zb (show m%10<10 by omega)).2];omega
theorem M9{a b:Int}(h:a=b):aI a=aI b:=by rw[h]
theorem ik{a b:Bool}(h:a=b):aI a=aI b:=by rw[h]
theorem RO{a b:List UInt8}(h:a=b):aI a=aI b:=by rw[h]
theorem anT(a b:List UInt8):(⟨a.toArray⟩++⟨b.toArray⟩:ByteArray)=⟨(a++b).toArray⟩:=by apply KQ;simp
theorem abP(l:List UInt8)(a b:Nat):(⟨l.toArray⟩:ByteArray).extract a b=⟨((l.take b).drop a).toArray⟩:=by apply KQ;rw[ByteArray.data_extract];simp[List.extract_eq_drop_take']
end Go.Proofs.YtgnflmdpalmejaaGreatDoor
