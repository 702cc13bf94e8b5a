/- Part of the proof. -/
import Derived.Shelf.Slices.Delete
import Derived.Shelf.Slices.Cells
import Derived.Shelf.Spec.SlicesInsert
import Derived.Shelf.Spec.SlicesInsertGrow
import Derived.Test.YtakfdnnlhjhcfaaGreatDoorA11
set_option linter.unusedVariables false
set_option linter.unusedSimpArgs false
set_option maxRecDepth 100000
set_option maxHeartbeats 4000000
namespace Bk
def gI(k:Int):Int:=if k=2 then 1 else if k=3 then 2 else if k=4∨k=5∨k=44∨k=45 then 3 else 0
def fT(r:Nat->Int):Nat->Int
 |0=>0
 |n+1=>if fT r n≠0 then fT r n else r n
theorem N1{r:Nat->Int}{j:Nat}:∀{n:Nat},j<n->fT r j=0->r j≠0->fT r n=r j
 |0,h,_,_=>absurd h (Nat.not_lt_zero _)
 |n+1,h,h0,h1=>by
  rcases Nat.lt_succ_iff_lt_or_eq.1 h with h2|rfl
  ·simp only[fT];rw[N1 h2 h0 h1,if_pos h1]
  ·simp only[fT];rw[if_neg (by omega)]
def rI(vs:List Vr)(x:Nd):Int:=if gI x.k=0 then 0 else dT vs x.nm (gI x.k)
end Bk
namespace Go.Proofs.YtakfdnnlhjhcfaaGreatDoor
open Go.RowKit Bk
theorem TR(k:Int)(w:World):Calls Tryz.prog 156 #[.int .u8 k] w fun e w'=>e=.returned (.int .u8 (gI k))∧w=w':=by
 by_cases h:k=2∨k=3∨k=4∨k=5∨k=44∨k=45
 ·rcases h with rfl|rfl|rfl|rfl|rfl|rfl
  all_goals
   go_enter Tryz.func156,Tryz.ntmps156;go_wp2_with fail;go_ret;exact⟨rfl,rfl⟩
 ·have e0:gI k=0:=by unfold gI;rw[if_neg (by omega),if_neg (by omega),if_neg (by omega)]
  rw[e0];have k2:(k==2)=false:=bqN.2 (by omega);have k3:(k==3)=false:=bqN.2 (by omega);have k4:(k==4)=false:=bqN.2 (by omega);have k5:(k==5)=false:=bqN.2 (by omega);have So:(k==44)=false:=bqN.2 (by omega);have Jq:(k==45)=false:=bqN.2 (by omega);clear h e0;go_enter Tryz.func156,Tryz.ntmps156;go_wp2_with fail;go_ret;exact⟨rfl,rfl⟩
theorem FindX.fix(vs:List Vr)(name:ByteArray):∃(fn:ByteArray)(fk fl:Int)(fb:Bool),(∀e,FindX vs name e->e=.returned (.tuple #[.agg #[.string fn,.int .u8 fk,.int .i64 fl],.bool fb]))∧∀kd,dT vs name kd=if fb=false then 6 else if fk≠kd then 7 else 0:=by
 unfold FindX dT;cases(bK name vs).bind fun i=>vs[i]? with
 |none=>exact⟨_,_,_,false,fun e h=>h,fun kd=>rfl⟩
 |some v=>exact⟨_,_,_,true,fun e h=>h,fun kd=>by simp⟩
theorem aE{P:Program}{md:Region.Mode}{ops:Array Oper}{Q:Exit->Act->World->Prop}{S:World->Prop}{fuel:Nat}{listed:Array Bool}{a:Act}{w:World}(h:∀w',w'=w->wpAnyH P md ops Q S fuel listed a w'):wpAnyH P md ops Q S fuel listed a w:=h w rfl
def JD(w:World)(B:Nat)(b o:Nat)(x:Nd)(r:Int):Prop:=∀w',Below B w w'->Calls Tryz.prog 136 #[.pointer (some ⟨b,o,none⟩),.agg #[.int .u8 x.k,.int .i64 x.num,.string x.nm,.slice x.A x.n x.cap]] w' fun e w''=>e=.returned (.int .i64 r)∧Below w'.heap.size w' w''
section
variable{w:World}{B b o nv cv:Nat}{V:Option Addr}{vs:List Vr}
theorem DH(bG:B<=w.heap.size)(Un:b<B)(hc:w.cell? ⟨b,o,none⟩=some (.slice V nv cv))(hv:VsAt w B V vs)(hnv:vs.length=nv)(d8:nv<=17592186043904)(x:Nd)(V3:x.n<=17592186043904)(rs:Nat->Int)(dE:∀i,i<x.n->∃y,Kid w B x i y∧JD w B b o y (rs i)):
  JD w B b o x (if rI vs x≠0 then rI vs x else fT rs x.n):=by
 intro w' hb;obtain⟨fn,fk,fl,fb,hfx,Sc⟩:=FindX.fix vs x.nm;have IN:Hid (∀W,Below B w W->Calls Tryz.prog 55 #[.slice V nv cv,.string x.nm] W fun en w''=>en=.returned (.tuple #[.agg #[.string fn,.int .u8 fk,.int .i64 fl],.bool fb])∧Below W.heap.size W w''):=aA fun W hW=>(qD bG V nv cv vs hv hnv d8 x.nm W hW).mono fun e w' h=>⟨hfx e h.1,h.2⟩
 have HN:=aA (fun W=>TR x.k W);have HB:=aA hb;have HC:=aA hc;have uB:=aA dE;have bC:B<=w'.heap.size:=by have:=hb.size;omega
 obtain⟨u,hu⟩:∃u,rI vs x=u:=⟨_,rfl⟩;obtain⟨q,hq⟩:∃q,(if u≠0 then u else fT rs x.n)=q:=⟨_,rfl⟩;rw[hu,hq];have HU:Hid (u=if gI x.k=0 then 0 else if fb=false then 6 else if fk≠gI x.k then 7 else 0):=aA (by rw[<-hu];unfold rI;rw[Sc]);have HQ:=aA hq;generalize gI x.k=nk at *;clear hv hnv hb hc dE hfx Sc hu hq;obtain⟨k,num,nm,A,n,cap⟩:=x;dsimp only at *;go_enter Tryz.func136,Tryz.ntmps136;go_upto_region 1 with fail;refine aB ?_;intro w1 aF;have aG:Below w'.heap.size w' w1:=(by rw[aF];go_grown);have K1:Blk w1 w'.heap.size 26 #[.int .u8 k,.int .i64 num,.string nm,.slice A n cap]:=(by rw[aF];exact aQ);have a9:=aA K1;have aO:=aA aG;clear aF aG;obtain⟨aL,aJ,aK⟩:=K1.open_;clear K1;go_wp2_with fail;refine(HN.out w1).mono ?_;rintro en w2 ⟨rfl,rfl⟩;have K2:=a9.out;clear aJ aL aK K2;have ND:B<=w1.heap.size:=by have:=aO.out.size;omega
 have Kg:Hid (Below B w w1):=aA (HB.out.trans (aO.out.mono bC));have HZ:Hid (∀W,Below w1.heap.size w1 W->W.cell? ⟨b,o,none⟩=some (.slice V nv cv)):=aA fun W hW=>(hW.cell (p:=⟨b,o,none⟩) (dX Un ND)).trans ((Kg.out.cell (p:=⟨b,o,none⟩) Un).trans HC.out)
 go_upto_if 15 with fail
 go_cut [4] (fun v4 wx=>u=0∧v4=.int .i64 0∧Below w1.heap.size w1 wx)
 case first=>
  by_cases h0:nk=0
  ·have dG:(nk !=0)=false:=bne_eq_false_iff_eq.2 h0
   have Ng:Hid (u=0):=aA (by rw[HU.out,if_pos h0]);clear h0;go_wp2_with fail;go_meet;exact⟨Ng.out,rfl,aM _ _⟩
  ·have dG:(nk !=0)=true:=bne_iff_ne.2 h0
   have Ng:Hid (u=if fb=false then 6 else if fk≠nk then 7 else 0):=aA (by rw[HU.out,if_neg h0]);clear h0;go_wp2_with fail;refine wp_region_held_drew (S:=fun W=>Below w1.heap.size w1 W) (by kernel_rfl) ((aM _ _).drew) (fun hH=>?_);refine aE ?_;intro wa bP;have hX:Below w1.heap.size w1 wa:=by rw[bP];exact(aM _ _).drew
   replace hH:=hX;clear bP;refine aW 0 (v:=?_) rfl hH ?_;(try simp only[PU,aD])
   refine aW 1 (v:=?_) rfl hH ?_;(try simp only[PU,aD])
   refine aW 2 (v:=?_) rfl hH ?_;(try simp only[PU,aD])
   refine cH 3 (v:=?_) rfl ?hy hH ?_
   case hy=>(intro bW aN;have t:=HZ.out _ aN;clear aN;go_simp;try with_reducible rfl)
   (try simp only[PU,aD])
   refine aW 4 (v:=?_) rfl hH ?_;(try simp only[PU,aD])
   refine cH 5 (v:=?_) rfl ?hy hH ?_
   case hy=>(intro bW aN;have t:=(a9.out.next aN).cell;clear aN;go_simp;try with_reducible rfl)
   (try simp only[PU,aD])
   refine wpAnyH_ready (rs:= [6,10]) (by kernel_rfl) (by simp) ?_;refine AllReadyH.cons rfl (fun K hK=>?_) (AllReadyH.cons rfl (fun K hK=>?_) (AllReadyH.nil));go_simp;refine(IN.out _ (Kg.out.trans (hX.mono ND))).mono ?_;rintro en wb ⟨rfl,aR⟩;replace hX:=hX.next aR;clear aR;refine hK.out _ _ hX (fun hH=>?_);clear hK;(try simp only[PU,aD])
   refine aW 7 (v:=?_) rfl hH ?_;(try simp only[PU,aD])
   refine aW 8 (v:=?_) rfl hH ?_;(try simp only[PU,aD])
   refine aW 9 (v:=?_) rfl hH ?_;(try simp only[PU,aD])
   refine cE 10 (by kernel_rfl) rfl (fun K hK=>?_);go_simp;refine hK.out _ _ (hX.next ((aM _ _).alloc (aH _) _)) (fun hH=>?_);clear hK;(try simp only[PU,aD])
   refine aE ?_;intro wc bS;have aR:Below wb.heap.size wb wc:=by rw[bS];exact(aM _ _).alloc (aH _) _
   have U2:=aA (show Blk wc wb.heap.size 72 #[.string ⟨#[]⟩,.int .u8 0,.int .i64 0] by rw[bS];exact Blk.new _ _ _);have P2:w1.heap.size<=wb.heap.size:=hX.size;replace hX:=hX.next aR;replace hH:=hX;clear bS aR;refine cE 11 (by kernel_rfl) rfl (fun K hK=>?_);obtain⟨Ju,Iw,Ii⟩:=U2.out.open_;go_simp;refine hK.out _ _ (((hX.setCell P2 _).setCell P2 _).setCell P2 _) (fun hH=>?_);clear hK;(try simp only[PU,aD])
   refine aE ?_;intro wd bS;have bI:=aA (show Blk wd wb.heap.size 72 #[.string fn,.int .u8 fk,.int .i64 fl] by rw[bS];simpa using((U2.out.set_ 0 (.string fn)).set_ 1 (.int .u8 fk)).set_ 2 (.int .i64 fl));replace hX:Below w1.heap.size w1 wd:=by rw[bS];exact hH
   replace hH:=hX;clear Iw Ju Ii bS U2;refine aW 12 (v:=?_) rfl hH ?_;(try simp only[PU,aD])
   refine wpAnyH_done (by kernel_rfl) ?_ _;generalize hvq:wb.heap.size=vq at *;have HX:=aA hX;clear hX hH P2 hvq;generalize wd=w3 at *;rotate_left;go_simp;refine hK.out _ _ (hX.next ((aM _ _).alloc (aH _) _)) (fun hH=>?_);clear hK;(try simp only[PU,aD])
   refine aE ?_;intro wb bS;have aR:Below wa.heap.size wa wb:=by rw[bS];exact(aM _ _).alloc (aH _) _
   have U2:=aA (show Blk wb wa.heap.size 72 #[.string ⟨#[]⟩,.int .u8 0,.int .i64 0] by rw[bS];exact Blk.new _ _ _);have P2:w1.heap.size<=wa.heap.size:=hX.size;replace hX:=hX.next aR;replace hH:=hX;clear bS aR;refine cE 6 (by kernel_rfl) rfl (fun K hK=>?_);go_simp;refine(IN.out _ (Kg.out.trans (hX.mono ND))).mono ?_;rintro en wc ⟨rfl,aR⟩;replace hX:=hX.next aR;replace U2:=aA (U2.out.next aR);clear aR;refine hK.out _ _ hX (fun hH=>?_);clear hK;(try simp only[PU,aD])
   refine aW 7 (v:=?_) rfl hH ?_;(try simp only[PU,aD])
   refine aW 8 (v:=?_) rfl hH ?_;(try simp only[PU,aD])
   refine aW 9 (v:=?_) rfl hH ?_;(try simp only[PU,aD])
   refine cE 11 (by kernel_rfl) rfl (fun K hK=>?_);obtain⟨Ju,Iw,Ii⟩:=U2.out.open_;go_simp;refine hK.out _ _ (((hX.setCell P2 _).setCell P2 _).setCell P2 _) (fun hH=>?_);clear hK;(try simp only[PU,aD])
   refine aE ?_;intro wd bS;have bI:=aA (show Blk wd wa.heap.size 72 #[.string fn,.int .u8 fk,.int .i64 fl] by rw[bS];simpa using((U2.out.set_ 0 (.string fn)).set_ 1 (.int .u8 fk)).set_ 2 (.int .i64 fl));replace hX:Below w1.heap.size w1 wd:=by rw[bS];exact hH
   replace hH:=hX;clear Iw Ju Ii bS U2;refine aW 12 (v:=?_) rfl hH ?_;(try simp only[PU,aD])
   refine wpAnyH_done (by kernel_rfl) ?_ _;generalize hvq:wa.heap.size=vq at *;have HX:=aA hX;clear hX hH P2 hvq;generalize wd=w3 at*
   all_goals
    obtain⟨aL,aJ,aK⟩:=bI.out.open_;cases fb with
    |false=>
     obtain rfl:u=6:=Ng.out;obtain rfl:q=6:=HQ.out.symm;go_wp2_with fail;go_ret;exact⟨rfl,aO.out.next HX.out⟩
    |true=>
     by_cases DJ:fk=nk
     ·have Qz:(fk !=nk)=false:=bne_eq_false_iff_eq.2 DJ
      have HUZ:Hid (u=0):=aA (by rw[Ng.out];simp[DJ]);clear DJ;go_wp2_with fail;go_meet;exact⟨HUZ.out,rfl,HX.out⟩
     ·have Qz:(fk !=nk)=true:=bne_iff_ne.2 DJ
      obtain rfl:u=7:=by rw[Ng.out];simp[DJ]
      obtain rfl:q=7:=HQ.out.symm;clear DJ;go_wp2_with fail;go_ret;exact⟨rfl,aO.out.next HX.out⟩
 case rest=>
  obtain⟨rfl,rfl,U5⟩:=hcut;have Be:=aA U5;have HKX:=aA (a9.out.next U5);clear U5;obtain⟨aL,aJ,aK⟩:=HKX.out.open_;go_wp2_with fail;have YG:Hid (fT rs n=q):=aA (by rw[<-HQ.out];simp);clear aJ aL aK HU HQ
  go_loopw [35] (fun v35 wr=>∃j:Nat,j<=n∧v35=.int .i64 j∧fT rs j=0∧Below wc.heap.size wc wr) (fun v _=>n-(intOf v).toNat)
  case atStart=>exact⟨0,fI _,rfl,rfl,aM _ _⟩
  case round=>
   obtain⟨j,hj,rfl,hfj,cF⟩:=hrel;have QK:=aA hfj;have cG:=aA (Be.out.next cF);have HXR:=aA cF;clear hfj cF;by_cases e9:j<n
   ·obtain⟨y,cS,yP⟩:=uB.out j e9
    obtain⟨g,oo,eY,cR,c0,c1,c2,c3⟩:=cS.cells (Kg.out.trans (cG.out.mono ND));simp only at eY;subst eY;have CH:=aA yP;have j0:(0:Int)<=(j:Int):=by omega
    have j1:(j:Int)<(n:Int):=by omega
    clear cS yP;go_upto_region 11 with fail;refine aB ?_;intro w5 jS;have cW:Below wr.heap.size wr w5:=by rw[jS];go_grown
    have KY:Blk w5 wr.heap.size 26 #[.int .u8 y.k,.int .i64 y.num,.string y.nm,.slice y.A y.n y.cap]:=by rw[jS];exact aQ
    have gP:=aA (cG.out.next cW);have kD:=aA (HXR.out.next cW);clear jS c0 c1 c2 c3 cW;obtain⟨aL,aJ,aK⟩:=KY.open_;clear KY;go_wp2_with fail;refine(CH.out w5 (Kg.out.trans (gP.out.mono ND))).mono ?_;rintro en w6 ⟨rfl,mC⟩;have mG:=aA (gP.out.next mC);have HC6:=aA (kD.out.next mC);clear mC aJ aL aK;by_cases hr:rs j=0
    ·have dG:(rs j !=0)=false:=bne_eq_false_iff_eq.2 hr
     have o0:=aA hr;clear hr;go_wp2_with fail;exact⟨⟨j+1,by omega,by go_num,by simp only[fT];rw[QK.out,o0.out];rfl,HC6.out⟩,by simp[intOf];omega⟩
    ·have dG:(rs j !=0)=true:=bne_iff_ne.2 hr
     obtain rfl:q=rs j:=by rw[<-YG.out,N1 e9 QK.out hr]
     clear hr;go_wp2_with fail;go_ret;exact⟨rfl,aO.out.next mG.out⟩
   ·obtain rfl:j=n:=by omega
    obtain rfl:q=0:=by rw[<-YG.out,QK.out]
    go_wp2_with fail;go_ret;exact⟨rfl,aO.out.next cG.out⟩
end
end Go.Proofs.YtakfdnnlhjhcfaaGreatDoor
namespace Go.Proofs
open Go.Shelf
def Tryz.laysNm221_ren:Go.Shelf.Ren:=⟨fun|21=>207|27=>212|28=>213|35=>216|39=>221|n=>n,fun|22=>30|3=>3|4=>4|0=>0|n=>n,fun|n=>n⟩
theorem Tryz.laysNm221:Go.Proofs.Lays2.n21 Tryz.prog Tryz.laysNm221_ren:={
 mixed:=by kernel_rfl
 f21:=Tryz.func207.trans (congrArg some (by kernel_rfl))
 f27:=Tryz.func212.trans (congrArg some (by kernel_rfl))
 f28:=Tryz.func213.trans (congrArg some (by kernel_rfl))
 f35:=Tryz.func216.trans (congrArg some (by kernel_rfl))
 f39:=Tryz.func221.trans (congrArg some (by kernel_rfl))
 t0:=Tryz.underlying0
 a0:=Tryz.isAgg0
 z0:=Tryz.sizeOf0
 v0:=Tryz.zeroValue0
 t3:=Tryz.underlying3
 a3:=Tryz.isAgg3
 z3:=Tryz.sizeOf3
 v3:=Tryz.zeroValue3
 t4:=Tryz.underlying4
 a4:=Tryz.isAgg4
 z4:=Tryz.sizeOf4
 v4:=Tryz.zeroValue4
 t22:=Tryz.underlying30
 a22:=Tryz.isAgg30
 z22:=Tryz.sizeOf30
 v22:=Tryz.zeroValue30
 i3:=by kernel_rfl}
def Tryz.laysNm223_ren:Go.Shelf.Ren:=⟨fun|23=>206|n=>n,fun|22=>30|3=>3|4=>4|0=>0|n=>n,fun|n=>n⟩
theorem Tryz.laysNm223:Go.Proofs.Lays2.n23 Tryz.prog Tryz.laysNm223_ren:={
 mixed:=by kernel_rfl
 f23:=Tryz.func206.trans (congrArg some (by kernel_rfl))
 t0:=Tryz.underlying0
 a0:=Tryz.isAgg0
 z0:=Tryz.sizeOf0
 v0:=Tryz.zeroValue0
 t3:=Tryz.underlying3
 a3:=Tryz.isAgg3
 z3:=Tryz.sizeOf3
 v3:=Tryz.zeroValue3
 t4:=Tryz.underlying4
 a4:=Tryz.isAgg4
 z4:=Tryz.sizeOf4
 v4:=Tryz.zeroValue4
 t22:=Tryz.underlying30
 a22:=Tryz.isAgg30
 z22:=Tryz.sizeOf30
 v22:=Tryz.zeroValue30
 i3:=by kernel_rfl}
end Go.Proofs
namespace Bk
open Go Go.RowKit
theorem Blk.setCells{g:Nat}{t:TypeId}:∀(vs:List Value)(o:Nat){w:World}{cur:Array Value},Blk w g t cur->∃cur',Blk (w.setCells g o vs) g t cur'∧cur'.size=cur.size∧∀j:Nat,cur'[j]?=if o<=j∧j<o+vs.length∧j<cur.size then vs[j-o]? else cur[j]?
 | [],o,w,cur,h=>⟨cur,h,rfl,fun j=>by rw[if_neg (by simp;omega)]⟩
 |v::r,o,w,cur,h=>by
  obtain⟨cur',h1,h2,h3⟩:=Blk.setCells r (o+1) (h.set_ o v);refine⟨cur',h1,by rw[h2];simp,fun j=>?_⟩;rw[h3 j];simp only[Array.size_setIfInBounds,List.length_cons,Array.getElem?_setIfInBounds];by_cases hj:j=o
  ·subst hj
   rw[if_neg (by omega),if_pos rfl];by_cases hs:j<cur.size
   ·rw[if_pos hs,if_pos ⟨aH _,by omega,hs⟩,Nat.sub_self];rfl
   ·rw[if_neg hs,if_neg (by omega),Array.getElem?_eq_none (by omega)]
  ·have hj':¬o=j:=fun e=>hj e.symm
   simp only[if_neg hj'];by_cases hc:o+1<=j∧j<o+1+r.length∧j<cur.size
   ·rw[if_pos hc,if_pos (by omega)]
    rw[show j-o=(j-(o+1))+1 by omega,List.getElem?_cons_succ]
   ·rw[if_neg hc,if_neg (by omega)]
theorem Fr.setCells{g:Nat}{O:Nat->Prop}(hO:O g):∀(vs:List Value)(o:Nat){w w':World},Fr O w w'->Fr O w (w'.setCells g o vs)
 | [],_,_,_,h=>h
 |v::r,o,_,_,h=>Fr.setCells hO r (o+1) (h.set hO v)
theorem gA{w:World}{base g n cp:Nat}{t:TypeId}{cur:Array Value}{xs:List Value}(h:Blk w g t cur)(hg:base<=g)(hn:n<=cp)(hc:cp<=maxLen)(hs:cur.size=cp)(hl:xs.length=n)(hx:∀(j:Nat)(u:Value),xs[j]?=some u->cur[j]?=some u):w.ownsRow base t 1 (.slice (some ⟨g,0,none⟩) n cp) n xs:=by
 refine⟨by omega,.inr ⟨g,cp,cur,rfl,hg,h,hn,hc,by omega,?_⟩⟩;refine List.ext_getElem? fun j=>?_
 rw[List.getElem?_take];by_cases hj:j<n
 ·rw[if_pos (by omega)]
  have:=hx j _ (dR (by omega));rw[dR (l:=xs) (by omega),Array.getElem?_toList];exact this
 ·rw[if_neg (by omega),List.getElem?_eq_none (by omega)]
theorem qO{w:World}{base:Nat}{e:TypeId}{n g cp:Nat}{xs:List Value}(h:w.ownsRow base e 1 (.slice (some ⟨g,0,none⟩) n cp) n xs):∃cur,Blk w g e cur∧cur.size=cp∧base<=g∧n<=cp∧cp<=maxLen∧xs.length=n∧∀(j:Nat)(u:Value),xs[j]?=some u->cur[j]?=some u:=by
 have hl:=h.1;rcases h.2 with⟨e1,_⟩|⟨g',cap',cur,e1,hg,hh,h3,h4,h5,h6⟩
 ·simp at e1
 ·injection e1 with e1 _ e2
  injection e1 with e1;injection e1 with e1 _ _;subst e1;subst e2;refine⟨cur,hh,by omega,hg,h3,h4,by omega,fun j u hu=>?_⟩;rw[<-h6,List.getElem?_take]at hu;split at hu
  ·simpa using hu
  ·cases hu
theorem y6{w:World}{g:Nat}{t:TypeId}{cs:Array Value}(h:Blk w g t cs):w.shape? g=some (t,cs.size):=by
 unfold Blk at h;unfold World.shape?;rw[h]
end Bk
namespace Go.Proofs.YtakfdnnlhjhcfaaGreatDoor
open Go.RowKit Bk
def ST(w:World)(B:Nat)(v:Value)(l:List Int)(e:Ending)(w':World):Prop:=∃v',e=.returned v'∧w'.ownsRow B 3 1 v' l.length (aC l)∧Fr (fun k=>v.ownBlock=some k) w w'∧∀k,v'.ownBlock=some k->v.ownBlock=some k∨w.heap.size<=k
theorem BB:(Tryz.prog.info? 3).map (fun i=>(i.zero,i.size,i.bytes))=some (some (.int .i64 0),1,8):=by kernel_rfl
theorem cD(l:List Int):(aC l).length=l.length:=by simp[aC]
theorem I8{w:World}{B:Nat}{v:Value}{l:List Int}(h:w.ownsRow B 3 1 v l.length (aC l))(hB:B<=w.heap.size)(hl:l.length<=100000)(x:Int){vb:Nat}(P2:Blk w vb 3 #[.int .i64 x]):
  Calls Tryz.prog 207 #[v,.int .i64 l.length,.slice (some ⟨vb,0,none⟩) 1 1] w fun e w'=>ST w B v (l++ [x]) e w':=by
 have oJ:∀(j:Nat)(u:Value),[Value.int .i64 x][j]?=some u->w.cell? ⟨vb,0+j,none⟩=some u:=fun j u hu=>by rw[Nat.zero_add,P2.cell j];simpa using hu
 have Oz:∀u∈ [Value.int .i64 x],u.oneCell'=true:=by simp[Value.oneCell']
 have QX:aC (l++ [x])=aC l++ [.int .i64 x]:=by simp[aC]
 obtain⟨A,c,rfl⟩:=aI h;by_cases hr:l.length+1<=c
 ·cases A with
  |none=>rcases h.2 with⟨e1,_⟩|⟨g',cap',cur,e1,_⟩;(simp at e1;omega);simp at e1
  |some ad=>
   obtain⟨g,o,sp⟩:=ad;have e0:(⟨g,o,sp⟩:Addr)=⟨g,0,none⟩:=by
    rcases h.2 with⟨e1,_⟩|⟨g',cap',cur,e1,_⟩
    ·simp at e1
    ·simp at e1;simp[e1]
   rw[e0]at h⊢;obtain⟨cur,hb,hs,hg,hn,hc,xK,hx⟩:=qO h;have Qv:c<=9223372036854775807:=by unfold maxLen at hc;omega
   have hC:=Any2.slices_Insert_int_end_room Tryz.laysNm221 g 0 l.length c vb 0 1 1 [.int .i64 x] w (by decide) hr Qv rfl (fun j hj=>by rw[show 0+l.length+j=l.length by omega,hb.cell,Array.getElem?_eq_getElem (by omega)];rfl) (fun j _=>hb.frozen _) oJ Oz;refine hC.mono ?_;rintro e w' ⟨rfl,rfl⟩;obtain⟨cur',k1,k2,k3⟩:=hb.setCells [.int .i64 x] (0+l.length);refine⟨_,rfl,?_,Fr.setCells (O:=fun k=>(Value.slice (some ⟨g,0,none⟩) l.length c).ownBlock=some k) rfl _ _ (Fr.refl _ _),fun k hk=>.inl hk⟩;rw[List.length_append];refine gA k1 hg hr hc (by omega) (by simp[aC]) fun j u hu=>?_
   rw[QX]at hu;rw[k3 j];have VV:=(lgS.1 hu).1;simp only[List.length_append,cD,List.length_cons,List.length_nil]at VV;rcases Nat.lt_or_ge j l.length with hj|hj
   ·rw[if_neg (by omega)]
    rw[List.getElem?_append_left (by rw[cD];exact hj)]at hu;exact hx j u hu
   ·obtain rfl:j=l.length:=by omega
    rw[if_pos (by simp;omega)];rw[List.getElem?_append_right (by rw[cD];omega)]at hu;simpa[cD]using hu
 ·have hcs:∀a,A=some a->∀(j:Nat)(u:Value),(aC l)[j]?=some u->w.cell? (a.add j)=some u:=fun a ha j u hu=>by
   subst ha;have hj:=(lgS.1 hu).1;rw[cD]at hj;obtain⟨g,cap,e,_,_,_,_,h3⟩:=d6 h (by omega);injection e with e _ _;injection e with e;subst e;rw[xU,Nat.zero_add];exact h3 j u hu
  have hnc:l.length<=c∧(A=none->l.length=0):=by
   rcases h.2 with⟨e1,e2⟩|⟨g',cap',cur,e1,_,_,h3,_⟩
   ·simp at e1;omega
   ·simp at e1;exact⟨by omega,fun hA=>by rw[e1.1]at hA;cases hA⟩
  obtain⟨i3,li,lz,ls,lb⟩:=info_parts BB;have hC:=Any2.slices_Insert_int_end_grow Tryz.laysNm221 A l.length c vb 0 1 1 (aC l) [.int .i64 x] w (by decide) hnc.1 (by omega) (by omega) (cD l) rfl hnc.2 hcs oJ Oz;refine hC.mono ?_;rintro e w' ⟨rfl,rfl⟩;have mS:=grownCap_ge w (l.length+1) c 3;have GI:grownCap w (l.length+1) c 3<=maxLen:=grownCap_le_maxLen w (l.length+1) c 3 (by unfold maxLen;omega);rw[show Tryz.laysNm221_ren.t 3=3 from rfl];refine⟨_,rfl,?_,Fr.of ((aM _ _).drew.alloc (aH _) _),fun k hk=>.inr (by simp[Value.ownBlock]at hk;omega)⟩;rw[List.length_append];refine gA (Blk.new w.drew 3 _) hB mS GI ?_ (by simp[aC]) fun j u hu=>?_
  ·simp only[Array.size_append,List.size_toArray,size_zeroCells,List.length_append,cD,List.length_cons,List.length_nil]
   show _+_*1=grownCap w (l.length+1) c 3;omega
  ·rw[QX]at hu
   have VV:=(lgS.1 hu).1;rw[Array.getElem?_append_left (by simpa using VV)];simpa using hu
theorem FF{w:World}{B:Nat}{v:Value}{l:List Int}(h:w.ownsRow B 3 1 v l.length (aC l))(hB:B<=w.heap.size)(hl:l.length<=100000)(x:Int){vb:Nat}(P2:Blk w vb 3 #[.int .i64 x])(dG:v.ownBlock≠some vb):
  Calls Tryz.prog 207 #[v,.int .i64 0,.slice (some ⟨vb,0,none⟩) 1 1] w fun e w'=>ST w B v (x::l) e w':=by
 rcases Nat.eq_zero_or_pos l.length with h0|h0
 ·obtain rfl:=List.eq_nil_of_length_eq_zero h0
  exact I8 h hB hl x P2
 have oJ:∀(j:Nat)(u:Value),[Value.int .i64 x][j]?=some u->w.cell? ⟨vb,0+j,none⟩=some u:=fun j u hu=>by rw[Nat.zero_add,P2.cell j];simpa using hu
 have Oz:∀u∈ [Value.int .i64 x],u.oneCell'=true:=by simp[Value.oneCell']
 have h1c:∀u∈aC l,u.oneCell'=true:=by simp[aC,Value.oneCell']
 have QX:aC (x::l)=.int .i64 x::aC l:=by simp[aC]
 obtain⟨g,c,rfl,hg,gR,_,_,hcl⟩:=d6 h h0;obtain⟨cur,hb,hs,_,hn,hc,xK,hx⟩:=qO h;have hcs:∀(j:Nat)(u:Value),(aC l)[j]?=some u->w.cell? ⟨g,0+j,none⟩=some u:=fun j u hu=>by rw[Nat.zero_add];exact hcl j u hu
 have Qv:c<=9223372036854775807:=by unfold maxLen at hc;omega
 have hvg:vb≠g:=fun e=>dG (by rw[e];rfl)
 by_cases hr:l.length+1<=c
 ·have hC:=Any2.slices_Insert_int_shift Tryz.laysNm221 g 0 l.length c 0 vb 0 1 1 (aC l) [.int .i64 x] w h0 (by decide) hr Qv hvg (cD l) rfl hcs (fun j hj=>by rw[Nat.zero_add,hb.cell,Array.getElem?_eq_getElem (by omega)];rfl) (fun j _=>hb.frozen _) oJ h1c Oz 3 3 1 cur.size (y6 P2) (y6 hb) (by omega) (P2.frozen _) (P2.frozen _)
  refine hC.mono ?_;rintro e w' ⟨rfl,rfl⟩;obtain⟨cur1,k1,k2,k3⟩:=hb.drew.setCells ((aC l).drop 0) (0+(0+1));obtain⟨cur2,m1,m2,m3⟩:=k1.setCells [.int .i64 x] (0+0);refine⟨_,rfl,?_,Fr.setCells (O:=fun k=>(Value.slice (some ⟨g,0,none⟩) l.length c).ownBlock=some k) rfl _ _ (Fr.setCells (O:=fun k=>(Value.slice (some ⟨g,0,none⟩) l.length c).ownBlock=some k) rfl _ _ (Fr.refl _ _).drew),fun k hk=>.inl hk⟩;rw[List.length_cons];refine gA m1 hg hr hc (by omega) (by simp[aC]) fun j u hu=>?_
  rw[QX]at hu;have VV:=(lgS.1 hu).1;simp only[List.length_cons,cD]at VV;rw[m3 j,k3 j,k2];simp only[List.length_cons,List.length_nil,List.drop_zero,cD];cases j with
  |zero=>rw[if_pos (by omega)];exact hu
  |succ j=>
   rw[if_neg (by omega),if_pos (by omega),show j+1-(0+(0+1))=j by omega];exact hu
 ·have hC:=Any2.slices_Insert_int_grow Tryz.laysNm221 g 0 l.length c 0 vb 0 1 1 (aC l) [.int .i64 x] w h0 (by decide) hn (by omega) (by omega) (cD l) rfl hcs oJ h1c Oz
  refine hC.mono ?_;rintro e w' ⟨rfl,rfl⟩;have mS:=grownCap_ge w (l.length+1) c 3;have GI:grownCap w (l.length+1) c 3<=maxLen:=grownCap_le_maxLen w (l.length+1) c 3 (by unfold maxLen;omega);obtain⟨cu,hcu⟩:∃cu,cu=((aC l).take 0).toArray++Builtin.zeroCells (Value.int .i64 0).cells (l.length+1-0)++Builtin.zeroCells (Value.int .i64 0).cells (grownCap w (l.length+1) c 3-(l.length+1)):=⟨_,rfl⟩;have hcz:cu.size=grownCap w (l.length+1) c 3:=by
   rw[hcu];simp only[Array.size_append,List.size_toArray,size_zeroCells,List.take_zero,List.length_nil];show 0+(l.length+1-0)*1+(grownCap w (l.length+1) c 3-(l.length+1))*1=_;omega
  show ST w B _ (x::l) (.returned (.slice (some ⟨w.heap.size,0,none⟩) (l.length+1) (grownCap w (l.length+1) c 3))) ((((w.alloc (.cells (((aC l).take 0).toArray++Builtin.zeroCells (Value.int .i64 0).cells (l.length+1-0)++Builtin.zeroCells (Value.int .i64 0).cells (grownCap w (l.length+1) c 3-(l.length+1))) 3)).drew.setCells w.heap.size 0 [.int .i64 x]).drew).setCells w.heap.size (0+1) ((aC l).drop 0));rw[<-hcu];obtain⟨cur1,k1,k2,k3⟩:=(Blk.new w 3 cu).drew.setCells [.int .i64 x] 0;obtain⟨cur2,m1,m2,m3⟩:=k1.drew.setCells ((aC l).drop 0) (0+1);have Uz:∀k,(fun k=>k=w.heap.size) k->w.heap.size<=k:=fun k hk=>by rw[hk];exact aH _
  have hF:Fr (fun k=>k=w.heap.size) (w.alloc (.cells cu 3)) ((((w.alloc (.cells cu 3)).drew.setCells w.heap.size 0 [.int .i64 x]).drew).setCells w.heap.size (0+1) ((aC l).drop 0)):=Fr.setCells (O:=fun k=>k=w.heap.size) rfl _ _ (Fr.drew (Fr.setCells (O:=fun k=>k=w.heap.size) rfl _ _ (Fr.refl _ _).drew));have hBl:=hF.below (B:=w.heap.size) (by have:=((aM _ w).alloc (aH _) (.cells cu 3)).size;omega) Uz;refine⟨_,rfl,?_,Fr.of (((aM _ _).alloc (aH _) _).trans hBl),fun k hk=>.inr (by simp[Value.ownBlock]at hk;omega)⟩;rw[List.length_cons];refine gA m1 hB mS GI (by omega) (by simp[aC]) fun j u hu=>?_
  rw[QX]at hu;have VV:=(lgS.1 hu).1;simp only[List.length_cons,cD]at VV;rw[m3 j,k3 j,k2,hcz];simp only[List.length_cons,List.length_nil,List.drop_zero,cD];cases j with
  |zero=>rw[if_neg (by omega),if_pos (by omega)];exact hu
  |succ j=>
   rw[if_pos (by omega),show j+1-(0+1)=j by omega];exact hu
theorem Nu{w:World}{B g c n i:Nat}{l:List Int}(h:w.ownsRow B 3 1 (.slice (some ⟨g,0,none⟩) n c) n (aC l))(hn:l.length=n)(hi:i<n):
  Calls Tryz.prog 206 #[.slice (some ⟨g,0,none⟩) n c,.int .i64 i,.int .i64 ((i:Int)+1)] w fun e w'=>e=.returned (.slice (some ⟨g,0,none⟩) (n-1) c)∧w'.ownsRow B 3 1 (.slice (some ⟨g,0,none⟩) (n-1) c) (n-1) (aC (l.take i++l.drop (i+1)))∧Fr (fun k=>k=g) w w':=by
 subst hn;obtain⟨cur,hb,hs,hg,hn,hc,xK,hx⟩:=qO h;have Qv:c<=9223372036854775807:=by unfold maxLen at hc;omega
 have hC:=Any.slices_Delete_int_cells Tryz.laysNm223 g 0 l.length c i (i+1) l w (aH _) hn Qv (by omega) (by omega) (fun j hj=>by rw[Nat.zero_add,hb.cell];exact hx j _ (eJ _ _ hj)) (fun j _=>hb.frozen _);refine hC.mono ?_;rintro e w' ⟨rfl,q,rfl⟩;rw[show l.length-(i+1-i)=l.length-1 by omega];refine⟨rfl,?_,Fr.setCells (O:=fun k=>k=g) rfl _ _ (Fr.drewN (Fr.refl _ _) q)⟩;obtain⟨cur',k1,k2,k3⟩:=(hb.drewN q).setCells (((l.take l.length).take i++(l.take l.length).drop (i+1)++List.replicate (i+1-i) 0).map (Value.int .i64)) 0;refine gA k1 hg (by omega) hc (by omega) (by simp[aC];omega) fun j u hu=>?_
 have VV:=(lgS.1 hu).1;simp only[cD,List.length_append,List.length_take,List.length_drop]at VV;rw[k3 j,if_pos (by simp;omega),Nat.sub_zero,List.take_length,List.map_append,List.getElem?_append_left (by simp;omega)];exact hu
end Go.Proofs.YtakfdnnlhjhcfaaGreatDoor
