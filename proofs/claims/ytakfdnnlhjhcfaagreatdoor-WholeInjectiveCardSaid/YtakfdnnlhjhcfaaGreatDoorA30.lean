/- Part of the proof. -/
import Derived.Test.YtakfdnnlhjhcfaaGreatDoorA24
set_option linter.unusedVariables false
set_option linter.unusedSimpArgs false
set_option maxRecDepth 100000
set_option maxHeartbeats 4000000
namespace Bk
def tD(v:Vr):Bool:=if v.k=1∨v.k=3 then decide (v.len=0)else if v.k=2 then decide (1<=v.len∧v.len<=16)else false
open Classical in
noncomputable def xP(vs:List Vr):Bool:=decide (vs.length<=32)&&decide (∀v∈vs,tD v=true)
def GD(v:Vr):Int:=if v.k=1 then 1 else v.len
def MW(v:Vr)(n:Nat):Bool:=if v.k=3 then decide (n<=1000)else decide ((n:Int)=GD v)
open Classical in
noncomputable def eS(vs:List Vr)(cs:List (List Int))(inp out:List Int):Bool:=xP vs&&(decide (cs.length=vs.length)&&(decide (inp.length<=4096)&&(decide (out.length<=4096)&&decide (∀(i:Nat)(v:Vr)(l:List Int),vs[i]?=some v->cs[i]?=some l->MW v l.length=true))))
end Bk
namespace Go.Proofs.YtakfdnnlhjhcfaaGreatDoor
open Go.RowKit Bk
theorem UZ{w:World}{B:Nat}(bG:B<=w.heap.size)(V:Option Addr)(nv cv:Nat)(vs:List Vr)(hv:VsAt w B V vs)(hnv:vs.length=nv)(d8:nv<=32)(r:Bool)(hr:r=true↔∀v∈vs,tD v=true)(w':World)(hb:Below B w w'):
  Calls Tryz.prog 36 #[.slice V nv cv] w' fun en w''=>en=.returned (.bool r)∧Below w'.heap.size w' w'':=by
 have HV:=aA hv;have oG:=aA hnv;have HB:=aA hb;have HR:=aA hr;clear hv hnv hb hr;have hgt:decide (32<(nv:Int))=false:=by simp;omega
 go_enter Tryz.func36,Tryz.ntmps36;go_wp2_with fail
 go_loopw [10] (fun v10 wr=>∃j:Nat,j<=nv∧v10=.int .i64 j∧(∀i v,i<j->vs[i]?=some v->tD v=true)∧Below w'.heap.size w' wr) (fun v _=>nv-(intOf v).toNat)
 case atStart=>exact⟨0,fI _,rfl,(fun i v hi=>absurd hi (Nat.not_lt_zero _)),aM _ _⟩
 case round=>
  obtain⟨j,hj,rfl,jC,cF⟩:=hrel;have HP:=aA jC;have cG:=aA cF;clear jC;by_cases e9:j<nv
  ·obtain⟨v,hvj⟩:∃v,vs[j]?=some v:=⟨_,dR (by have:=oG.out;omega)⟩
   obtain⟨g,o,eY,cR,c0,c1,c2⟩:=(HV.out.next HB.out) j v hvj;subst eY;have oR:g<w'.heap.size:=by have:=HB.out.size;omega
   have d0:=(cF.cell (p:=⟨g,o+j*3,none⟩) oR).trans c0;have d1:=(cF.cell (p:=⟨g,o+j*3+1,none⟩) oR).trans c1;have d2:=(cF.cell (p:=⟨g,o+j*3+2,none⟩) oR).trans c2;have HF:Hid (tD v=false->r=false):=aA fun h=>by
    cases r with
    |false=>rfl
    |true=>have:=HR.out.1 rfl v (List.mem_of_getElem? hvj);rw[h]at this;cases this
   have HS:Hid (tD v=true->∀i u,i<j+1->vs[i]?=some u->tD u=true):=aA fun h i u hi hu=>(Nat.lt_succ_iff_lt_or_eq.1 hi).elim (fun h1=>HP.out i u h1 hu) (fun h1=>by subst h1;rw[hvj]at hu;injection hu with hu;subst hu;exact h)
   obtain⟨nm,k,len⟩:=v;dsimp only at d0 d1 d2;have j0:(0:Int)<=(j:Int):=by omega
   have j1:(j:Int)<(nv:Int):=by omega
   clear c0 c1 c2 hvj cF;go_upto_region 6 with fail;refine aB ?_;intro w2 eD;have hb2:Below wr.heap.size wr w2:=by rw[eD];go_grown
   have K2:Blk w2 wr.heap.size 72 #[.string nm,.int .u8 k,.int .i64 len]:=by rw[eD];exact aQ
   have aP:=aA (cG.out.next hb2);have bI:=aA K2;clear eD d0 d1 d2 hb2;obtain⟨eL,eC,eF⟩:=K2.open_;clear K2;have bD:=aP;unfold tD at HF HS;dsimp only at HF HS;by_cases U4:k=1∨k=3
   ·by_cases hl:len=0
    ·subst hl
     have mH:=aA (HS.out (by rw[if_pos U4];simp));clear HS HF;rcases U4 with rfl|rfl
     ·go_wp2_with fail
      exact⟨⟨j+1,by omega,by go_num,mH.out,bD.out⟩,by simp[intOf];omega⟩
     ·go_wp2_with fail
      exact⟨⟨j+1,by omega,by go_num,mH.out,bD.out⟩,by simp[intOf];omega⟩
    ·obtain rfl:r=false:=HF.out (by rw[if_pos U4];simp[hl])
     have oS:(len !=0)=true:=by simpa using hl
     clear HS HF;rcases U4 with rfl|rfl
     ·go_wp2_with fail
      go_ret;exact⟨rfl,bD.out⟩
     ·go_wp2_with fail
      go_ret;exact⟨rfl,bD.out⟩
   ·by_cases h2:k=2
    ·subst h2
     by_cases hl:1<=len∧len<=16
     ·have mH:=aA (HS.out (by rw[if_neg U4,if_pos rfl];simp[hl]))
      have l1:decide (len<1)=false:=by simp;omega
      have l2:decide (16<len)=false:=by simp;omega
      clear HS HF;go_wp2_with fail;exact⟨⟨j+1,by omega,by go_num,mH.out,bD.out⟩,by simp[intOf];omega⟩
     ·obtain rfl:r=false:=HF.out (by rw[if_neg U4,if_pos rfl];simpa using hl)
      clear HS HF;by_cases l1:len<1
      ·have l1':decide (len<1)=true:=by simpa using l1
       go_wp2_with fail;go_ret;exact⟨rfl,bD.out⟩
      ·have l1':decide (len<1)=false:=by simpa using l1
       have l2:decide (16<len)=true:=by simp;omega
       go_wp2_with fail;go_ret;exact⟨rfl,bD.out⟩
    ·obtain rfl:r=false:=HF.out (by rw[if_neg U4,if_neg h2])
     have e1:(k==1)=false:=by simp;omega
     have e2:(k==2)=false:=by simpa using h2
     have e3:(k==3)=false:=by simp;omega
     clear HS HF;go_wp2_with fail;go_ret;exact⟨rfl,bD.out⟩
  ·obtain rfl:j=nv:=by omega
   obtain rfl:r=true:=HR.out.2 fun v hv=>by
    obtain⟨i,hi⟩:=List.getElem?_of_mem hv;exact HP.out i v (by have:=(lgS.1 hi).1;have:=oG.out;omega) hi
   go_wp2_with fail;go_ret;exact⟨rfl,cG.out⟩
theorem TV{w:World}{B:Nat}(bG:B<=w.heap.size)(V:Option Addr)(nv cv:Nat)(vs:List Vr)(hv:VsAt w B V vs)(hnv:vs.length=nv)(w':World)(hb:Below B w w'):
  Calls Tryz.prog 36 #[.slice V nv cv] w' fun en w''=>en=.returned (.bool (xP vs))∧Below w'.heap.size w' w'':=by
 unfold xP;by_cases h:nv<=32
 ·rw[hnv,show decide (nv<=32)=true by simpa using h,Bool.true_and]
  exact UZ bG V nv cv vs hv hnv h _ (by simp) w' hb
 ·rw[hnv,show decide (nv<=32)=false by simpa using h,Bool.false_and]
  have hgt:decide (32<(nv:Int))=true:=by simp;omega
  clear hv hb hnv;go_enter Tryz.func36,Tryz.ntmps36;go_wp2_with fail;go_ret;exact⟨rfl,by go_grown⟩
theorem TN(nm:ByteArray)(k len:Int)(w:World):Calls Tryz.prog 37 #[.agg #[.string nm,.int .u8 k,.int .i64 len]] w fun en w'=>en=.returned (.int .i64 (GD ⟨nm,k,len⟩))∧Below w.heap.size w w':=by
 unfold GD;by_cases h:k=1
 ·subst h
  go_enter Tryz.func37,Tryz.ntmps37;go_wp2_with fail;go_ret;exact⟨by simp,by go_grown⟩
 ·have h1:(k==1)=false:=by simpa using h
  go_enter Tryz.func37,Tryz.ntmps37;go_wp2_with fail;go_ret;exact⟨by simp[h],by go_grown⟩
theorem Y5{w:World}{B:Nat}(bG:B<=w.heap.size)(V:Option Addr)(nv cv:Nat)(vs:List Vr)(hv:VsAt w B V vs)(hnv:vs.length=nv){vC vI vO:Value}{cs:List (List Int)}{inp out:List Int}(hS:SW w (·<B) vC vI vO cs inp out)(w':World)(hb:Below B w w'):
  Calls Tryz.prog 18 #[.slice V nv cv,.agg #[vC,vI,vO]] w' fun en w''=>en=.returned (.bool (eS vs cs inp out))∧Below w'.heap.size w' w'':=by
 have Dg:=aA (fun W hW=>TV bG V nv cv vs hv hnv W hW);obtain⟨r,hr⟩:∃r,eS vs cs inp out=r:=⟨_,rfl⟩;have HR:Hid (r=true↔xP vs=true∧cs.length=vs.length∧inp.length<=4096∧out.length<=4096∧∀(i:Nat)(v:Vr)(l:List Int),vs[i]?=some v->cs[i]?=some l->MW v l.length=true):=aA (by rw[<-hr];unfold eS;simp only[Bool.and_eq_true,decide_eq_true_eq]);rw[hr];obtain⟨sv,d9,pG⟩:=hS.row;have GN:sv.length=cs.length:=by
  obtain⟨_,_,_,_,_,hR⟩:=d9;have:=hR.1;omega
 have YM:Hid (∀(i:Nat)(u:Value)(l:List Int),sv[i]?=some u->cs[i]?=some l->∃A c,u=.slice A l.length c):=aA fun i u l h1 h2=>by
  obtain⟨A,c,e,_⟩:=pG i u l h1 h2;exact⟨A,c,e⟩
 obtain⟨AC,cC,rfl,_,_,hR⟩:=d9;obtain⟨AI,cI,rfl,_⟩:=hS.inp;obtain⟨AO,cO,rfl,_⟩:=hS.out;have QS:=aA hR;have HV:=aA hv;have oG:=aA hnv;have HB:=aA hb;have F2:=aA GN;have bC:B<=w'.heap.size:=by have:=hb.size;omega
 have Wd:Hid (sv.length=cs.length):=aA GN;obtain⟨nc,hnc⟩:∃n,cs.length=n:=⟨_,rfl⟩;obtain⟨ni,hni⟩:∃n,inp.length=n:=⟨_,rfl⟩;obtain⟨no,hno⟩:∃n,out.length=n:=⟨_,rfl⟩;obtain⟨rV,hrV⟩:∃n,xP vs=n:=⟨_,rfl⟩;have Zm:Hid (rV=true->nv<=32):=aA fun h=>by rw[<-hrV]at h;unfold xP at h;simp only[Bool.and_eq_true,decide_eq_true_eq]at h;omega
 rw[hnc,hni,hno,hnv,hrV]at HR;rw[hrV]at Dg;rw[hnc]at QS F2⊢;rw[hni,hno];clear hr pG hS hR hv hnv hb GN hnc hni hno hrV;go_enter Tryz.func18,Tryz.ntmps18;go_upto_region 1 with fail;refine aB ?_;intro w1 aF;have aG:Below w'.heap.size w' w1:=(by rw[aF];go_grown);have a9:Hid (Blk w1 w'.heap.size 32 #[.slice AC nc cC,.slice AI ni cI,.slice AO no cO]):=aA (by rw[aF];exact aQ);have aO:=aA aG;clear aF aG;go_wp2_with fail;refine(Dg.out w1 (HB.out.trans (aO.out.mono bC))).mono ?_;rintro en w2 ⟨rfl,hb2⟩;have aP:=aA (aO.out.next hb2);have bI:=aA (a9.out.next hb2);obtain⟨aL,aJ,aK⟩:=bI.out.open_;clear hb2 a9 aO Dg;cases rV with
 |false=>
  obtain rfl:r=false:=by cases r with
   |false=>rfl
   |true=>exact absurd (HR.out.1 rfl).1 (by simp)
  go_wp2_with fail;go_ret;exact⟨rfl,aP.out⟩
 |true=>
  by_cases h1:nc=nv;rotate_left
  ·have q1:((nc:Int) !=(nv:Int))=true:=by simp;omega
   obtain rfl:r=false:=by cases r with
    |false=>rfl
    |true=>exact absurd (HR.out.1 rfl).2.1 h1
   clear h1;go_wp2_with fail;go_ret;exact⟨rfl,aP.out⟩
  have q1:((nc:Int) !=(nv:Int))=false:=by simp;omega
  by_cases h2:ni<=4096;rotate_left
  ·have q2:decide (4096<(ni:Int))=true:=by simp;omega
   obtain rfl:r=false:=by cases r with
    |false=>rfl
    |true=>exact absurd (HR.out.1 rfl).2.2.1 h2
   clear h1 h2;go_wp2_with fail;go_ret;exact⟨rfl,aP.out⟩
  have q2:decide (4096<(ni:Int))=false:=by simp;omega
  by_cases h3:no<=4096;rotate_left
  ·have q3:decide (4096<(no:Int))=true:=by simp;omega
   obtain rfl:r=false:=by cases r with
    |false=>rfl
    |true=>exact absurd (HR.out.1 rfl).2.2.2.1 h3
   clear h1 h2 h3;go_wp2_with fail;go_ret;exact⟨rfl,aP.out⟩
  have q3:decide (4096<(no:Int))=false:=by simp;omega
  have nJ:Hid (r=true↔∀(i:Nat)(v:Vr)(l:List Int),vs[i]?=some v->cs[i]?=some l->MW v l.length=true):=aA (by rw[HR.out];exact⟨fun h=>h.2.2.2.2,fun h=>⟨rfl,h1,h2,h3,h⟩⟩);have IL:Hid (nc=nv):=aA h1;have Qx:=Zm.out rfl;clear h1 h2 h3 HR;go_wp2_with fail;clear aL aJ aK q1 q2 q3
  go_loopw [32] (fun v32 wr=>∃j:Nat,j<=nv∧v32=.int .i64 j∧(∀(i:Nat)(v:Vr)(l:List Int),i<j->vs[i]?=some v->cs[i]?=some l->MW v l.length=true)∧Below w2.heap.size w2 wr) (fun v _=>nv-(intOf v).toNat)
  case atStart=>exact⟨0,fI _,rfl,(fun i v l hi=>absurd hi (Nat.not_lt_zero _)),aM _ _⟩
  case round=>
   obtain⟨j,hj,rfl,jC,cF⟩:=hrel;have HP:=aA jC;have cG:=aA (aP.out.next cF);have fL:=aA (bI.out.next cF);have II:=aA cF;clear jC cF;by_cases e9:j<nv
   ·obtain⟨v,hvj⟩:∃v,vs[j]?=some v:=⟨_,dR (by have:=oG.out;omega)⟩
    obtain⟨u,huj⟩:∃u,sv[j]?=some u:=⟨_,dR (by have:=F2.out;have:=IL.out;omega)⟩;have hcl:j<cs.length:=by
     have h5:=QS.out.1;have:=F2.out;have:=IL.out;have:=Wd.out;omega
    obtain⟨l,hlj⟩:∃l,cs[j]?=some l:=⟨_,dR hcl⟩;obtain⟨Al,cl,rfl⟩:=YM.out j u l huj hlj;obtain⟨gC,oC,hAC,hgC,Z7⟩:=QS.out.2 (by have:=IL.out;omega);obtain⟨g,o,eY,cR,c0,c1,c2⟩:=(HV.out.next HB.out) j v hvj;subst eY;subst hAC;have jL:Below B w wr:=HB.out.trans (cG.out.mono bC);have oR:g<w'.heap.size:=by omega
    have d0:=(cG.out.cell (p:=⟨g,o+j*3,none⟩) oR).trans c0;have d1:=(cG.out.cell (p:=⟨g,o+j*3+1,none⟩) oR).trans c1;have d2:=(cG.out.cell (p:=⟨g,o+j*3+2,none⟩) oR).trans c2;have y0:wr.cell? ⟨gC,oC+j,none⟩=some (.slice Al l.length cl):=(jL.cell (p:=⟨gC,oC+j,none⟩) hgC).trans (Z7 j _ huj);have HF:Hid (MW v l.length=false->r=false):=aA fun h=>by
     cases r with
     |false=>rfl
     |true=>have:=nJ.out.1 rfl j v l hvj hlj;rw[h]at this;cases this
    have HS:Hid (MW v l.length=true->∀(i:Nat)(v:Vr)(l:List Int),i<j+1->vs[i]?=some v->cs[i]?=some l->MW v l.length=true):=aA fun h i v' l' hi h1 h2=>(Nat.lt_succ_iff_lt_or_eq.1 hi).elim (fun h3=>HP.out i v' l' h3 h1 h2) (fun h3=>by subst h3;rw[hvj]at h1;rw[hlj]at h2;injection h1 with h1;injection h2 with h2;subst h1;subst h2;exact h)
    obtain⟨nl,hnl⟩:∃nl,l.length=nl:=⟨_,rfl⟩;rw[hnl]at y0 HF HS;obtain⟨nm,k,len⟩:=v;dsimp only at d0 d1 d2;have j0:(0:Int)<=(j:Int):=by omega
    have j1:(j:Int)<(nv:Int):=by omega
    have j2:(j:Int)<(nc:Int):=by have:=IL.out;omega
    clear c0 c1 c2 hvj huj hlj Z7 hcl hnl;go_upto_region 6 with fail;refine aB ?_;intro w3 dP;have aT:Below wr.heap.size wr w3:=(by rw[dP];go_grown);have Nj:Hid (Blk w3 wr.heap.size 72 #[.string nm,.int .u8 k,.int .i64 len]):=aA (by rw[dP];exact aQ);have bD:=aA (cG.out.next aT);have dD:=aA (fL.out.next aT);have iN:=aA (II.out.next aT);have HY3:Hid (∀W,Below w3.heap.size w3 W->W.cell? ⟨gC,oC+j,none⟩=some (.slice Al nl cl)):=aA fun W hW=>(hW.cell (p:=⟨gC,oC+j,none⟩) (by have:=jL.size;have:=aT.size;show gC<_;omega)).trans ((aT.cell (p:=⟨gC,oC+j,none⟩) (by have:=jL.size;show gC<_;omega)).trans y0)
    have y3:=HY3.out w3 (aM _ _);clear dP d0 d1 d2 aT y0 jL;obtain⟨eL,eC,eF⟩:=Nj.out.open_;unfold MW at HF HS;dsimp only at HF HS;by_cases hk:k=3
    ·subst hk
     simp only[if_true]at HF HS;obtain⟨aL,aJ,aK⟩:=dD.out.open_;by_cases hl:nl<=1000
     ·have mH:=aA (HS.out (by simpa using hl))
      have l2:decide (1000<(nl:Int))=false:=by simp;omega
      clear HS HF;go_wp2_with fail;exact⟨⟨j+1,by omega,by first|rfl|go_num,mH.out,iN.out⟩,by simp[intOf];omega⟩
     ·obtain rfl:r=false:=HF.out (by simpa using hl)
      have l2:decide (1000<(nl:Int))=true:=by simp;omega
      clear HS HF;go_wp2_with fail;go_ret;exact⟨rfl,bD.out⟩
    ·have e3:(k==3)=false:=by simpa using hk
     simp only[if_neg hk]at HF HS;obtain⟨fx,hfx⟩:∃fx,GD ⟨nm,k,len⟩=fx:=⟨_,rfl⟩;have HFX:Hid (∀W,Calls Tryz.prog 37 #[.agg #[.string nm,.int .u8 k,.int .i64 len]] W fun en w'=>en=.returned (.int .i64 fx)∧Below W.heap.size W w'):=aA fun W=>by rw[<-hfx];exact TN nm k len W
     rw[hfx]at HF HS;clear hfx;go_wp2_with fail;clear eC eL eF;refine wp_region_held_drew (S:=fun W=>Below w3.heap.size w3 W) (by kernel_rfl) ((aM _ _).drew) (fun hH=>?_);refine aE ?_;intro wa bP;have hX:Below w3.heap.size w3 wa:=by rw[bP];exact(aM _ _).drew
     replace hH:Below w3.heap.size w3 wa:=hX;clear bP;refine aW 0 (v:=?_) rfl hH ?_;(try simp only[PU,aD])
     refine cH 1 (v:=?_) rfl ?hy hH ?_
     case hy=>(intro bW aN;have t:=(dD.out.next aN).cell;clear aN;go_simp;try with_reducible rfl)
     (try simp only[PU,aD])
     refine aW 2 (v:=?_) rfl hH ?_;(try simp only[PU,aD])
     refine aW 3 (v:=?_) rfl hH ?_;(try simp only[PU,aD])
     refine cH 4 (v:=?_) rfl ?hy hH ?_
     case hy=>(intro bW aN;have t:=HY3.out _ aN;clear aN;go_simp;try with_reducible rfl)
     (try simp only[PU,aD])
     refine aW 5 (v:=?_) rfl hH ?_;(try simp only[PU,aD])
     refine cH 6 (v:=?_) rfl ?hy hH ?_
     case hy=>(intro bW aN;have t:=(Nj.out.next aN).cell;clear aN;go_simp;try with_reducible rfl)
     (try simp only[PU,aD])
     refine cE 7 (by kernel_rfl) rfl (fun K hK=>?_);go_simp;refine(HFX.out _).mono ?_;rintro en wb ⟨rfl,aR⟩;refine hK.out _ _ (hX.next aR) (fun hH=>?_);clear hK;(try simp only[PU,aD])
     replace hX:=hX.next aR;refine aW 8 (v:=?_) rfl hH ?_;(try simp only[PU,aD])
     refine wpAnyH_done (by kernel_rfl) ?_ _;by_cases hl:(nl:Int)=fx
     ·have mH:=aA (HS.out (by simpa using hl))
      have l2:((nl:Int) !=fx)=false:=by simpa using hl
      clear HS HF hl;have HX:=aA (iN.out.next hX);clear hX hH aR;go_wp2_with fail;exact⟨⟨j+1,by omega,by first|rfl|go_num,mH.out,HX.out⟩,by simp[intOf];omega⟩
     ·obtain rfl:r=false:=HF.out (by simpa using hl)
      have l2:((nl:Int) !=fx)=true:=by simpa using hl
      clear HS HF hl;have HX:=aA (bD.out.next hX);clear hX hH aR;go_wp2_with fail;go_ret;exact⟨rfl,HX.out⟩
   ·obtain rfl:j=nv:=by omega
    obtain rfl:r=true:=nJ.out.2 fun i v l h1 h2=>HP.out i v l (by have:=(lgS.1 h1).1;have:=oG.out;omega) h1 h2
    clear HP;go_wp2_with fail;go_ret;exact⟨rfl,cG.out⟩
end Go.Proofs.YtakfdnnlhjhcfaaGreatDoor
namespace Bk
open Go Go.RowKit
def jF(vs:List Vr)(cs:List (List Int))(inp out:List Int)(j:Nat):PSt:=⟨cs.take j,⟨vs.take j,List.range j,0⟩,[],inp,out⟩
theorem GR{vs:List Vr}{cs:List (List Int)}{inp out:List Int}{j:Nat}{v:Vr}{l:List Int}(hv:vs[j]?=some v)(hl:cs[j]?=some l):(({jF vs cs inp out j with cells:=(jF vs cs inp out j).cells++ [l]}:PSt).setCur ⟨(jF vs cs inp out j).cur.vars++ [v],(jF vs cs inp out j).cur.idx++ [(jF vs cs inp out j).cells.length],(jF vs cs inp out j).cur.locals⟩)=jF vs cs inp out (j+1):=by
 have hj:=(lgS.1 hl).1;unfold jF PSt.setCur PSt.cur;simp only[List.getLastD_nil,if_true];have e1:vs.take (j+1)=vs.take j++ [v]:=by rw[List.take_add_one,hv];rfl
 have e2:cs.take (j+1)=cs.take j++ [l]:=by rw[List.take_add_one,hl];rfl
 rw[e1,e2,List.range_succ,List.length_take,Nat.min_eq_left (by omega)]
theorem OS{vs:List Vr}{cs:List (List Int)}{inp out:List Int}(h:cs.length=vs.length):jF vs cs inp out vs.length=⟨cs,⟨vs,List.range vs.length,0⟩,[],inp,out⟩:=by
 unfold jF;rw[List.take_length,<-h,List.take_length]
end Bk
namespace Go.Proofs.YtakfdnnlhjhcfaaGreatDoor
open Go.RowKit Bk
section
variable{w w':World}{B:Nat}{S:Sv}{σ:PSt}{kd:Nat->Int}{m:Nat}
theorem SOn.init{st tb:Nat}{u1 u2:Value}{inp out:List Int}(hst:Blk w st 123 #[.slice none 0 0,.slice none 0 0,.int .i64 0,.slice none 0 0,.pointer (some ⟨tb,0,none⟩)])(DO:Blk w tb 156 #[u1,u2])(h1:w.ownsRow B 3 1 u1 inp.length (aC inp))(h2:w.ownsRow B 3 1 u2 out.length (aC out))
  (aAG:B<=st) (VY:B<=tb) (dG:st≠tb) (n1:∀k,u1.ownBlock=some k∨u2.ownBlock=some k->k≠st∧k≠tb) (n2:∀k,u1.ownBlock=some k->u2.ownBlock=some k->False):
  ∃S:Sv,S.st=st∧SOn w B S ⟨[],⟨[],[],0⟩,[],inp,out⟩:=by
 classical
 let ro:Nat->KG:=fun k=>if k=st then .store else if k=tb then .tape else if u1.ownBlock=some k then .tin else if u2.ownBlock=some k then .tout else .none
 have r1:∀k,u1.ownBlock=some k->ro k=.tin:=fun k hk=>by
  show(if _ then _ else if _ then _ else if _ then _ else _)=_;rw[if_neg (n1 k (.inl hk)).1,if_neg (n1 k (.inl hk)).2,if_pos hk]
 have r2:∀k,u2.ownBlock=some k->ro k=.tout:=fun k hk=>by
  show(if _ then _ else if _ then _ else if _ then _ else _)=_;rw[if_neg (n1 k (.inr hk)).1,if_neg (n1 k (.inr hk)).2,if_neg (fun h=>n2 k h hk),if_pos hk]
 have hn:∀k,Value.ownBlock (.slice none 0 0)=some k->False:=fun k h=>by cases h
 refine⟨⟨st,tb,.slice none 0 0,.slice none 0 0,.slice none 0 0,u1,u2,[],fun _=>0,fun _=>.slice none 0 0,ro⟩,rfl,⟨hst,⟨⟨by simp[aU],.inl ⟨rfl,rfl⟩⟩,⟨by simp[Sv.ptrs],.inl ⟨rfl,rfl⟩⟩,fun k hk=>(hn k hk).elim,fun k hk=>(hn k hk).elim⟩,⟨by simp[eU],.inl ⟨rfl,rfl⟩⟩,rfl,fun i x f h=>by simp at h,DO,h1,h2,fun i l h=>by simp at h,if_pos rfl,?_,fun k hk=>(hn k hk).elim,r1,r2,fun k hk=>?_⟩⟩
 ·show(if tb=st then _ else if tb=tb then _ else _)=_
  rw[if_neg (fun h=>dG h.symm),if_pos rfl]
 ·change (if k=st then KG.store else if k=tb then .tape else if u1.ownBlock=some k then .tin else if u2.ownBlock=some k then .tout else .none)≠ .none at hk
  by_cases e1:k=st
  ·subst e1;exact⟨aAG,hst.lt⟩
  rw[if_neg e1]at hk;by_cases e2:k=tb
  ·subst e2;exact⟨VY,DO.lt⟩
  rw[if_neg e2]at hk;by_cases e3:u1.ownBlock=some k
  ·exact bH h1 e3
  rw[if_neg e3]at hk;by_cases e4:u2.ownBlock=some k
  ·exact bH h2 e4
  rw[if_neg e4]at hk;exact absurd rfl hk
theorem OT(h:SOn w B S σ)(hB:B<=w.heap.size)(hI:∀f,f=σ.base∨f∈σ.calls->∀i,i∈f.idx->i<σ.cells.length)(Gf:σ.cur.vars.length<=10000)(hl:σ.cur.idx.length=σ.cur.vars.length){W:World}(hb:Below w.heap.size w W){g:Nat}{val:Value}{l:List Int}(hg:w.heap.size<=g)(f8:Blk W g 127 #[val])(d9:W.ownsRow w.heap.size 3 1 val l.length (aC l))(dG:val.ownBlock≠some g)(u:Vr):
  Calls Tryz.prog 63 #[.pointer (some ⟨S.fb σ,σ.fo,none⟩),.agg #[.string u.nm,.int .u8 u.k,.int .i64 u.len],.pointer (some ⟨g,0,none⟩)] W fun e w'=>e=.returned (.tuple #[])∧(∃S',SOn w' B S' (({σ with cells:=σ.cells++ [l]}:PSt).setCur ⟨σ.cur.vars++ [u],σ.cur.idx++ [σ.cells.length],σ.cur.locals⟩)∧S.Ext S' w)∧Fr S.O w w':=by
 obtain⟨S1,h1,x1,c1,f1,v1⟩:=h.addCell hI hb hg hB f8 d9 dG;have lO:B<=W.heap.size:=fC hB hb.size;have hcu:({σ with cells:=σ.cells++ [l]}:PSt).cur=σ.cur:=rfl;have hc:=LL h1 lO (by rw[hcu];exact Gf) (by rw[hcu];exact hl) u σ.cells.length;rw[f1,c1]at hc;refine hc.mono ?_;rintro e w' ⟨rfl,S2,h2,x2,r2,c2,f2,o2⟩;exact⟨rfl,⟨S2,h2,x1.trans x2 hb.size⟩,x1.fr (Fr.of hb) r2⟩
theorem Y7{V:Option Addr}{nv cv:Nat}{vs:List Vr}(bG:B<=w.heap.size)(hv:VsAt w B V vs)(hnv:vs.length=nv){vC vI vO:Value}{cs:List (List Int)}{inp out:List Int}(hS:SW w (·<B) vC vI vO cs inp out)(eN:eS vs cs inp out=true)(w':World)(hb:Below B w w'):
  Calls Tryz.prog 41 #[.slice V nv cv,.agg #[vC,vI,vO]] w' fun e w''=>∃(S:Sv)(B1:Nat),e=.returned (.tuple #[.pointer (some ⟨S.st,0,none⟩),.int .i64 0])∧SOn w'' B1 S ⟨cs,⟨vs,List.range vs.length,0⟩,[],inp,out⟩∧w'.heap.size<=B1∧Below w'.heap.size w' w'':=by
 have hf:=eN;unfold eS xP at hf;simp only[Bool.and_eq_true,decide_eq_true_eq]at hf;obtain⟨⟨GO,_⟩,gY,G0,DL,Qe⟩:=hf;have W0:=aA (fun W hW=>Y5 bG V nv cv vs hv hnv hS W hW);rw[eN]at W0;have HTN:=aA (fun W(hW:Below B w W)=>FH (w:=W) (v1:=vI) (v2:=vO) (a:=inp) (b:=out) ((Sl.belowS hS.inp hW).mono fun k hk=>by have:=hW.size;omega) ((Sl.belowS hS.out hW).mono fun k hk=>by have:=hW.size;omega) G0 DL);obtain⟨sv,d9,pG⟩:=hS.row;have IK:Hid (∀j,j<nv->∃(g o:Nat)(v:Vr)(l:List Int)(A:Option Addr)(c:Nat),vs[j]?=some v∧cs[j]?=some l∧vC.ownBlock=vC.ownBlock∧(∃n c,vC=.slice (some ⟨g,o,none⟩) n c∧n=nv)∧g<B∧w.cell? ⟨g,o+j,none⟩=some (.slice A l.length c)∧∀W,Below B w W->Calls Tryz.prog 30 #[.slice A l.length c] W fun e w'=>∃v,e=.returned v∧w'.ownsRow W.heap.size 3 1 v l.length (aC l)∧Below W.heap.size W w'):=aA fun j hj=>by
  have Jg:j<cs.length:=by omega
  obtain⟨A',c',e1,_,_,hR⟩:=d9;obtain⟨g,o,e2,hg,hc⟩:=hR.2 (by omega);have Vd:sv.length=cs.length:=by have:=hR.1;omega
  have hu:sv[j]?=some (sv[j]'(by omega)):=dR (by omega);have hlj:cs[j]?=some (cs[j]'Jg):=dR Jg;have hvj:vs[j]?=some (vs[j]'(by omega)):=dR (by omega);have hs:=pG j _ _ hu hlj;obtain⟨A,c,e3,_⟩:=id hs;refine⟨g,o,_,_,A,c,hvj,hlj,rfl,⟨_,c',by rw[e1,e2],by omega⟩,hg,by rw[hc j _ hu,e3],fun W hW=>?_⟩;have GK:(cs[j]'Jg).length<=17592186044400:=by
   have h1:=Qe j _ _ hvj hlj;unfold MW at h1;have AH:tD (vs[j]'(by omega))=true:=(by assumption:∀v∈vs,tD v=true) _ (List.getElem_mem _);unfold tD at AH;unfold GD at h1;split at h1
   ·have:=of_decide_eq_true h1;omega
   ·have h2:=of_decide_eq_true h1
    split at h2
    ·omega
    ·split at AH
     ·have:=of_decide_eq_true AH;omega
     ·split at AH
      ·have:=of_decide_eq_true AH;omega
      ·cases AH
  have:=eR (w:=W) (Sl.belowS hs hW) GK
  rwa [e3]at this
 have HV:=aA hv;have oG:=aA hnv;have HB:=aA hb;have JI:=aA gY;have yJ:B<=w'.heap.size:=by have:=hb.size;omega
 have Qx:nv<=32:=by omega
 obtain⟨AC,nc,cC,rfl⟩:∃A n c,vC=.slice A n c:=by obtain⟨A,c,e,_⟩:=d9;exact⟨A,_,c,e⟩
 obtain⟨AI,ni,cI,rfl⟩:∃A n c,vI=.slice A n c:=by obtain⟨A,c,e,_⟩:=hS.inp;exact⟨A,_,c,e⟩
 obtain⟨AO,no,cO,rfl⟩:∃A n c,vO=.slice A n c:=by obtain⟨A,c,e,_⟩:=hS.out;exact⟨A,_,c,e⟩
 clear hv hb hS eN d9 pG Qe G0 DL gY;go_enter Tryz.func41,Tryz.ntmps41;go_upto_region 1 with fail;refine aB ?_;intro w1 aF;have aG:Below w'.heap.size w' w1:=(by rw[aF];go_grown);have a9:Hid (Blk w1 w'.heap.size 32 #[.slice AC nc cC,.slice AI ni cI,.slice AO no cO]):=aA (by rw[aF];exact aQ);have aO:=aA aG;obtain⟨aL,aJ,aK⟩:=a9.out.open_;clear aF aG;go_wp2_with fail;refine(W0.out w1 (HB.out.trans (aO.out.mono yJ))).mono ?_;rintro en w2 ⟨rfl,hb2⟩;have aP:=aA (aO.out.next hb2);have bI:=aA (a9.out.next hb2);clear aL aJ aK hb2 a9 W0;obtain⟨aL,aJ,aK⟩:=bI.out.open_;go_wp2_with fail;refine(HTN.out w2 (HB.out.trans (aP.out.mono yJ))).mono ?_;rintro en w3 ⟨tb,u1,u2,rfl,DO,o1,o2,n2,nlt,VY,aT⟩;have EZ:=aA DO;have zJ:=aA o1;have E9:=aA o2;have SD:=aA n2;have CG:=aA nlt;have bD:=aA (aP.out.next aT);have dD:=aA (bI.out.next aT);have hs2:=aP.out.size;have WC:=aT.size;have U5:=bI.out.lt;clear aL aJ aK aT DO o1 o2 n2 nlt bI HTN;go_upto_region 7 with fail;refine aB ?_;intro w4 qI;have bV:Below w3.heap.size w3 w4:=(by rw[qI];go_grown);have hst:Blk w4 w3.heap.size 123 #[.slice none 0 0,.slice none 0 0,.int .i64 0,.slice none 0 0,.pointer (some ⟨tb,0,none⟩)]:=(by rw[qI];exact Blk.new _ _ _)
 have Dd:Hid (∃S:Sv,S.st=w3.heap.size∧SOn w4 w2.heap.size S ⟨[],⟨[],[],0⟩,[],inp,out⟩):=aA (SOn.init hst (EZ.out.next bV) (aZ zJ.out bV (aH _)) (aZ E9.out bV (aH _)) WC VY (by have:=EZ.out.lt;omega) (fun k hk=>by have h1:=CG.out k hk;have:=EZ.out.lt;omega) SD.out);have dQ:=aA (bD.out.next bV);have eG:=aA (dD.out.next bV);have ZO:=hst.lt;clear qI bV hst EZ zJ E9 SD CG dD bD aO VY;generalize w3.heap.size=st at *;generalize w2.heap.size=B1 at *;go_wp2_with fail
 go_loopw [30] (fun v30 wr=>∃(j:Nat)(S:Sv),j<=nv∧v30=.int .i64 j∧S.st=st∧SOn wr B1 S (jF vs cs inp out j)∧Below w'.heap.size w' wr∧Blk wr w'.heap.size 32 #[.slice AC nc cC,.slice AI ni cI,.slice AO no cO]∧S.ro w'.heap.size=.none) (fun v _=>nv-(intOf v).toNat)
 case atStart=>
  obtain⟨S,h1,h2⟩:=Dd.out;exact⟨0,S,fI _,rfl,h1,h2,dQ.out,eG.out,Decidable.byContradiction fun hn=>by have:=(h2.new _ hn).1;omega⟩
 case round=>
  obtain⟨j,S,hj,rfl,hst,QZ,cF,NT,Ha⟩:=hrel;have W7:=aA QZ;have cG:=aA cF;have QL:=aA NT;have JX:=aA Ha;have wQ:=aA hst;clear QZ NT Ha;by_cases e9:j<nv
  ·obtain⟨g,o,v,l,A,c,hvj,hlj,_,⟨n',c',e,C5⟩,cR,bM,hcl⟩:=IK.out j e9
   injection e with e1 e2 e3;subst e1;subst e2;subst e3;have HNN:=aA C5;obtain⟨gv,ov,hV,AF,c0,c1,c2⟩:=HV.out j v hvj;subst hV;have jL:Below B w wr:=HB.out.trans (cF.mono yJ);have d0:=(jL.cell (p:=⟨gv,ov+j*3,none⟩) AF).trans c0;have d1:=(jL.cell (p:=⟨gv,ov+j*3+1,none⟩) AF).trans c1;have d2:=(jL.cell (p:=⟨gv,ov+j*3+2,none⟩) AF).trans c2;have Za:=aA (GR (inp:=inp) (out:=out) hvj hlj);have iK:=aA hcl;have HY:Hid (∀W,Below B w W->W.cell? ⟨g,o+j,none⟩=some (.slice A l.length c)):=aA fun W hW=>(hW.cell (p:=⟨g,o+j,none⟩) cR).trans bM
   have dU:=aA jL;have hfb:S.fb (jF vs cs inp out j)=st:=by unfold Sv.fb jF;rw[if_pos rfl];exact hst
   have hlen:(jF vs cs inp out j).cells.length=j:=by unfold jF;simp;have:=(lgS.1 hlj).1;omega
   have NV:(jF vs cs inp out j).cur.vars.length=j:=by unfold jF PSt.cur;simp;have:=(lgS.1 hvj).1;omega
   have Bt:Hid (∀(w5:World)(cW:Below wr.heap.size wr w5)(W:World)(gg:Nat)(val:Value),Below w5.heap.size w5 W->w5.heap.size<=gg->Blk W gg 127 #[val]->W.ownsRow w5.heap.size 3 1 val l.length (aC l)->val.ownBlock≠some gg->Calls Tryz.prog 63 #[.pointer (some ⟨st,0,none⟩),.agg #[.string v.nm,.int .u8 v.k,.int .i64 v.len],.pointer (some ⟨gg,0,none⟩)] W fun e w'=>e=.returned (.tuple #[])∧(∃S',SOn w' B1 S' (jF vs cs inp out (j+1))∧S.Ext S' w5)∧Fr S.O w5 w'):=aA fun w5 cW W gg val hW hg f8 d9 dG=>by
    have:=OT (W7.out.next cW) (by have:=W7.out.top.lt;have:=(W7.out.new _ (show S.ro S.st≠ .none by rw[W7.out.rst];simp)).1;have:=cW.size;omega) (fun f hf i hi=>by
     rcases hf with rfl|hf
     ·rw[hlen];unfold jF at hi;simpa using hi
     ·unfold jF at hf;simp at hf) (by rw[NV];omega) (by rw[NV];unfold jF PSt.cur;simp) hW hg f8 d9 dG v
    rw[hfb,show(jF vs cs inp out j).fo=0 from rfl,Za.out]at this;exact this
   obtain⟨nm,k,len⟩:=v;dsimp only at d0 d1 d2 Bt;obtain⟨nl,hnl⟩:∃nl,l.length=nl:=⟨_,rfl⟩;have CG:=aA hnl;rw[hnl]at iK HY Bt;have j0:(0:Int)<=(j:Int):=by omega
   have j1:(j:Int)<(nv:Int):=by omega
   have j2:(j:Int)<(nc:Int):=by omega
   clear hvj hlj bM hcl c0 c1 c2 jL hfb hlen NV hnl C5 hst;go_upto_region 10 with fail;refine aB ?_;intro w5 jS;have cW:Below wr.heap.size wr w5:=(by rw[jS];go_grown);have Ue:Hid (Blk w5 wr.heap.size 72 #[.string nm,.int .u8 k,.int .i64 len]):=aA (by rw[jS];exact aQ);have gL:=aA cW;have lX:=aA (QL.out.next cW);have Wt:=aA (Bt.out w5 cW);have hnV:¬S.O wr.heap.size:=fun h=>by have:=(W7.out.new _ h).2;omega
   have hnK:¬S.O w'.heap.size:=fun h=>h JX.out
   have Kf:=aA (dU.out.trans (cW.mono (by have:=cG.out.size;omega)));have hgS:∀W,Fr S.O w5 W->W.cell? ⟨g,o+j,none⟩=some (.slice A nl c):=fun W hW=>HY.out W (Kf.out.trans (hW.below (by have:=cG.out.size;have:=cW.size;omega) fun k hk=>by have:=(W7.out.new k hk).1;omega))
   have HGS:=aA hgS;clear jS cW d0 d1 d2 hgS Bt HY;refine wp_region_held_drew (S:=fun W=>Fr S.O w5 W) (by kernel_rfl) ((Fr.refl _ _).drew) (fun hH=>?_);refine aE ?_;intro wa bP;have hX:Below w5.heap.size w5 wa:=by rw[bP];exact(aM _ _).drew
   replace hH:Fr S.O w5 wa:=Fr.of hX;clear bP;refine aW 0 (v:=?_) rfl hH ?_;(try simp only[PU,aD])
   refine aW 1 (v:=?_) rfl hH ?_;(try simp only[PU,aD])
   refine aW 2 (v:=?_) rfl hH ?_;(try simp only[PU,aD])
   refine cH 3 (v:=?_) rfl ?hy hH ?_
   case hy=>(intro bW aN;have t:=(aN.blk Ue.out hnV).cell;clear aN;go_simp;try with_reducible rfl)
   (try simp only[PU,aD])
   refine aW 4 (v:=?_) rfl hH ?_;(try simp only[PU,aD])
   refine cH 5 (v:=?_) rfl ?hy hH ?_
   case hy=>(intro bW aN;have t:=(aN.blk lX.out hnK).cell;clear aN;go_simp;try with_reducible rfl)
   (try simp only[PU,aD])
   refine aW 6 (v:=?_) rfl hH ?_;(try simp only[PU,aD])
   refine aW 7 (v:=?_) rfl hH ?_;(try simp only[PU,aD])
   refine cH 8 (v:=?_) rfl ?hy hH ?_
   case hy=>(intro bW aN;have t:=HGS.out _ aN;clear aN;go_simp;try with_reducible rfl)
   (try simp only[PU,aD])
   refine cE 9 (by kernel_rfl) rfl (fun K hK=>?_);go_simp;refine(iK.out _ (Kf.out.trans (hX.mono (by have:=cG.out.size;have:=gL.out.size;omega)))).mono ?_;rintro en wb ⟨_,rfl,ou,aR⟩;obtain⟨Au,cu,rfl⟩:=aI ou;refine hK.out _ _ (hH.next aR) (fun hH=>?_);clear hK;(try simp only[PU,aD])
   have vV:=hX.size;have OL:=aR.size;replace hX:=hX.next aR;clear aR;refine aW 10 (v:=?_) rfl hH ?_;(try simp only[PU,aD])
   refine cE 11 (by kernel_rfl) rfl (fun K hK=>?_);go_simp;refine hK.out _ _ (hH.alloc _) (fun hH=>?_);clear hK;(try simp only[PU,aD])
   refine cK ?_;intro wc bS;have aR:Below wb.heap.size wb wc:=by rw[bS];exact(aM _ _).alloc (aH _) _
   have kc:Blk wc wb.heap.size 127 #[.slice Au nl cu]:=by rw[bS];exact Blk.new _ _ _
   replace hH:=(show Fr S.O w5 wc by rw[bS];exact hH);have dG:Value.ownBlock (.slice Au nl cu)≠some wb.heap.size:=fun e=>by have:=bT ou e;omega
   replace ou:=dZ (aZ ou aR (aH _)) vV;replace hX:=hX.next aR;have hzc:w5.heap.size<=wb.heap.size:=by omega
   clear bS aR;refine cE 12 (by kernel_rfl) rfl (fun K hK=>?_);go_simp;refine(Wt.out _ _ _ hX hzc kc ou dG).mono ?_;rintro en wd ⟨rfl,⟨S',Rf,Vh⟩,Gj⟩;refine hK.out _ _ Gj (fun hH=>?_);clear hK;(try simp only[PU,aD])
   refine wpAnyH_done (by kernel_rfl) ?_ _;have Xz:=aA Rf;have HX':=aA Vh;have Kz:=aA Gj;clear Rf Vh Gj hX hH ou kc dG;go_wp2_with fail;have hs5:=gL.out.size;exact⟨⟨j+1,S',by omega,by first|rfl|go_num,HX'.out.1.trans wQ.out,Xz.out,cG.out.trans ((gL.out.mono cG.out.size).trans (Kz.out.below (by have:=cG.out.size;omega) fun k hk=>by have:=(W7.out.new k hk).1;omega)),Kz.out.blk lX.out hnK,(HX'.out.2 _ lX.out.lt).trans JX.out⟩,by simp[intOf];omega⟩
  ·obtain rfl:j=nv:=by omega
   go_wp2_with fail;refine bodyPost_ret_by (results_tmp2 rfl _ _ _) rfl ?_;have hnn:jF vs cs inp out j=⟨cs,⟨vs,List.range vs.length,0⟩,[],inp,out⟩:=by rw[<-oG.out];exact OS JI.out
   refine⟨S,B1,by rw[wQ.out];rfl,?_,by omega,cG.out⟩;rw[<-hnn];exact W7.out
end
end Go.Proofs.YtakfdnnlhjhcfaaGreatDoor
namespace Bk
open Go Go.RowKit Go.Proofs.YtakfdnnlhjhcfaaGreatDoor
theorem SqAt.upS{w w':World}{B B' d:Nat}{s:Sq}{x:Nd}(h:SqAt w B d s x)(hb:Below B w w')(hB:B<=B'):SqAt w' B' d s x:=
 ⟨h.1,h.2.1,fun i hi=>let ⟨y,⟨g,o,a,b,c⟩,h2⟩:=h.2.2 i hi;⟨y,Kid.upS ⟨g,o,a,b,c⟩ hb hB,StAt.upS hb hB _ _ _ h2⟩⟩
theorem PrsAt.upS{w w':World}{B B' d:Nat}{A:Option Addr}{l:List Pc}(h:PrsAt w B d A l)(hb:Below B w w')(hB:B<=B'):PrsAt w' B' d A l:=fun i p hi=>by
 obtain⟨⟨g,o,e,hg,c0,c1,c2,c3,c4,c5⟩,hv,h2,h3,h4,h5⟩:=h i p hi;refine⟨⟨g,o,e,dX hg hB,(hb.cell (p:=⟨g,o+i*6,none⟩) hg).trans c0,(hb.cell (p:=⟨g,o+i*6+1,none⟩) hg).trans c1,(hb.cell (p:=⟨g,o+i*6+2,none⟩) hg).trans c2,(hb.cell (p:=⟨g,o+i*6+3,none⟩) hg).trans c3,(hb.cell (p:=⟨g,o+i*6+4,none⟩) hg).trans c4,(hb.cell (p:=⟨g,o+i*6+5,none⟩) hg).trans c5⟩,?_,h2,h3,h4,h5.upS hb hB⟩;exact fun j v hj=>let ⟨g,o,a,b,c⟩:=(hv.next hb) j v hj;⟨g,o,a,dX b hB,c⟩
theorem m6{vs:List Vr}{cs:List (List Int)}{inp out:List Int}(h:eS vs cs inp out=true):(⟨cs,⟨vs,List.range vs.length,0⟩,[],inp,out⟩:PSt).Ok (fun i=>(vs.getD i ⟨⟨#[]⟩,0,0⟩).k) 32:=by
 unfold eS xP at h;simp only[Bool.and_eq_true,decide_eq_true_eq]at h;obtain⟨⟨hv,AH⟩,hc,hi,ho,pG⟩:=h;refine⟨⟨by simp,fun i v c(h1:vs[i]?=some v)(h2:(List.range vs.length)[i]?=some c)=>?_,fI _,hv⟩,fun f hf=>by simp at hf,fun c l(hl:cs[c]?=some l)=>?_,hi,ho,fI _⟩
 ·have Uv:=(lgS.1 h1).1
  simp only[List.getElem?_range Uv,Option.some.injEq]at h2;subst h2;exact⟨by show i<cs.length;omega,by simp[eX,h1]⟩
 ·have hcl:=(lgS.1 hl).1
  have hvj:vs[c]?=some (vs[c]'(by omega)):=dR (by omega);have h1:=pG c _ _ hvj hl;have h2:=AH _ (List.getElem_mem (show c<vs.length by omega));have hg:(vs.getD c ⟨⟨#[]⟩,0,0⟩).k=(vs[c]'(by omega)).k:=by simp[eX,hvj]
  generalize vs[c]'(by omega)=v at *;simp only[hg];unfold MW at h1;unfold tD at h2;by_cases h3:v.k=3
  ·rw[if_pos h3]at h1
   have:=of_decide_eq_true h1;exact⟨fun h=>by omega,this⟩
  ·rw[if_neg h3]at h1
   have h4:=of_decide_eq_true h1;unfold GD at h4;by_cases h5:v.k=1
   ·rw[if_pos h5]at h4
    exact⟨fun _=>by omega,by omega⟩
   ·rw[if_neg h5]at h4
    rw[if_neg (by omega)]at h2;split at h2
    ·have:=of_decide_eq_true h2
     exact⟨fun h=>absurd h h5,by omega⟩
    ·cases h2
end Bk
namespace Go.Proofs.YtakfdnnlhjhcfaaGreatDoor
open Go.RowKit Bk
def sY(W:World)(S:Sv)(r eg:Nat)(b:Nat):Prop:=b<W.heap.size∧S.ro b=.none∧b≠r∧b≠eg
theorem RAt.start{W:World}{B1 r eg nq fuel:Nat}{S:Sv}{vs:List Vr}{cs:List (List Int)}{inp out:List Int}{V Q:Value}{m:Nd}(eN:eS vs cs inp out=true)(QZ:SOn W B1 S ⟨cs,⟨vs,List.range vs.length,0⟩,[],inp,out⟩)(NO:fuel<=2000)
  (hr:Blk W r 86 #[V,Q,.int .u8 m.k,.int .i64 m.num,.string m.nm,.slice m.A m.n m.cap,.pointer (some ⟨S.st,0,none⟩),.int .i64 0,.int .i64 fuel,.slice (some ⟨eg,0,none⟩) nq nq]) (he:Blk W eg 3 (madeCells #[.int .i64 0] nq)) (hB:B1<=W.heap.size) (hrB:B1<=r) (heB:B1<=eg) (hrn:S.ro r=.none) (hen:S.ro eg=.none) (dG:eg≠r) (hn:nq<=1000):
  RAt W B1 W r ⟨V,Q,m,S.st,.slice (some ⟨eg,0,none⟩) nq nq,sY W S r eg⟩ S ⟨cs,⟨vs,List.range vs.length,0⟩,[],inp,out⟩ fuel fuel (fun i=>(vs.getD i ⟨⟨#[]⟩,0,0⟩).k) 32:=by
 refine⟨aM _ _,?_,QZ,m6 eN,rfl,hrn,hrB,⟨eg,nq,nq,List.replicate nq 0,rfl,?_,by simp,hen,dG⟩,aH _,by omega,NO,aH _,fun b hb=>⟨hb.1,hb.2.1,hb.2.2.1,fun h=>hb.2.2.2 (by injection h with h;exact h.symm)⟩,fun _ _=>rfl⟩
 ·unfold Rn.cells
  dsimp only;rw[show(fuel:Int)-(fuel:Int)=0 by omega];exact hr
 ·have l6:(madeCells #[.int .i64 0] nq).size=nq:=by simp[madeCells]
  refine gA he heB (aH _) (by unfold maxLen;omega) l6 (by simp[aC]) fun j u hu=>?_
  have hj:j<nq:=by have:=(lgS.1 hu).1;simpa[aC]using this
  have:u=.int .i64 0:=by simpa[aC,hj,List.getElem?_replicate]using hu.symm
  subst this;rw[Array.getElem?_eq_getElem (by rw[l6];exact hj)];simp[madeCells,Nat.mod_one]
end Go.Proofs.YtakfdnnlhjhcfaaGreatDoor
namespace Bk
def Ne0(a:Mo):Prop:=∀σ f x,a σ f=.error x->x≠0
def Ne0S(g:PSt->Rs):Prop:=∀σ x,g σ=.error x->x≠0
theorem Ne0.ok:Ne0 xM:=fun σ f x h=>by cases h
theorem Ne0.err{e:Int}(h:e≠0):Ne0 fun _ _=>.error e:=fun σ f x h1=>by injection h1 with h1;subst h1;exact h
theorem Ne0.seq{a b:Mo}(ha:Ne0 a)(hb:Ne0 b):Ne0 (a.seq b):=fun σ f x h=>by
 unfold Mo.seq at h;cases h1:a σ f with
 |error e=>rw[h1]at h;injection h with h;subst h;exact ha _ _ _ h1
 |ok r=>rw[h1]at h;exact hb _ _ _ h
theorem Ne0.step:Ne0 PO:=fun σ f x h=>by
 cases f with
 |zero=>injection h with h;subst h;decide
 |succ f=>cases h
theorem Ne0.lift{g:PSt->Rs}(h:Ne0S g):Ne0 (liftM g):=fun σ f x h1=>by
 unfold liftM at h1;cases h2:g σ with
 |error e=>rw[h2]at h1;injection h1 with h1;subst h1;exact h _ _ h2
 |ok s=>rw[h2]at h1;cases h1
theorem Ne0.value{e:Ex}{k:Int->Mo}(hk:∀v,Ne0 (k v)):Ne0 (b8 e k):=fun σ f x h=>by
 unfold b8 at h;split at h
 ·rename_i h0;injection h with h;subst h;exact h0
 ·exact hk _ _ _ _ h
theorem Ne0.holds{e:Ex}{k:Bool->Mo}(hk:∀v,Ne0 (k v)):Ne0 (fF e k):=Ne0.step.seq (Ne0.value fun _=>hk _)
theorem Ne0.assert(e:Ex)(w:Bool):Ne0 (bF e w):=Ne0.holds fun b=>by
 by_cases h:b=w
 ·rw[if_pos h];exact Ne0.ok
 ·rw[if_neg h];exact Ne0.err (by decide)
theorem Ne0S.place{σ:PSt}{p:Ex}{r:Int×Int}{k:Nat->Int->Rs}(hk:∀i v x,k i v=.error x->x≠0){x:Int}(h:eE σ p r k=.error x):x≠0:=by
 unfold eE at h;split at h
 ·rename_i h0;injection h with h;subst h;exact h0
 ·split at h
  ·rename_i h0;injection h with h;subst h;exact h0
  ·split at h
   ·injection h with h;subst h;decide
   ·exact hk _ _ _ h
theorem Ne0S.upd(op:Int)(p e:Ex):Ne0S (lW op p e):=fun σ x h=>by
 unfold lW at h;split at h
 ·injection h with h;subst h;decide
 ·split at h
  ·rename_i h0;injection h with h;subst h;exact h0
  ·exact Ne0S.place (fun i v x h=>by cases h) h
theorem Ne0S.swp(p q:Ex):Ne0S (mF p q):=fun σ x h=>by
 unfold mF at h;split at h
 ·rename_i h0;injection h with h;subst h;exact h0
 ·refine Ne0S.place (fun i v x h=>?_) h
  split at h
  ·injection h with h;subst h;decide
  ·cases h
theorem Ne0S.stk(op:Int)(s:ByteArray)(p:Ex):Ne0S (kZ op s p):=fun σ x h=>by
 unfold kZ at h;split at h
 ·rename_i h0;injection h with h;subst h;exact h0
 ·refine Ne0S.place (fun i v x h=>?_) h
  repeat' split at h
  all_goals first|(injection h with h;subst h;decide)|cases h
theorem Ne0S.tap(op:Int)(p:Ex):Ne0S (lA op p):=fun σ x h=>by
 unfold lA at h;split at h
 ·rename_i h0;injection h with h;subst h;exact h0
 ·refine Ne0S.place (fun i v x h=>?_) h
  repeat' split at h
  all_goals first|(injection h with h;subst h;decide)|cases h
theorem Ne0S.open_(v:Vr)(l:List Int):Ne0S (cX v l):=fun σ x h=>by
 unfold cX at h;split at h
 ·injection h with h;subst h;decide
 ·cases h
theorem Ne0S.close(s:ByteArray)(v:Int):Ne0S (bU s v):=fun σ x h=>by
 unfold bU at h
 repeat' split at h
 all_goals first|(injection h with h;subst h;decide)|cases h
theorem Ne0S.leave:Ne0S dY:=fun σ x h=>by
 unfold dY at h;split at h
 ·injection h with h;subst h;decide
 ·cases h
theorem xY{σ:PSt}:∀{ps:List Vr}{ss:List ByteArray}{x:Int},bY σ ps ss=.error x->x≠0
 | [],_,x,h=>by cases h
 |_::_,[],x,h=>by simp only[bY]at h;injection h with h;subst h;decide
 |v::ps,s::ss,x,h=>by
  simp only[bY]at h;split at h
  ·injection h with h;subst h;decide
  ·split at h
   ·injection h with h;subst h;decide
   ·cases h1:bY σ ps ss with
    |error e=>rw[h1]at h;injection h with h;subst h;exact xY h1
    |ok l=>rw[h1]at h;cases h
theorem Ne0S.enter(ps:List Vr)(ss:List ByteArray):Ne0S (dB ps ss):=fun σ x h=>by
 unfold dB at h;split at h
 ·injection h with h;subst h;decide
 ·cases h1:bY σ ps ss with
  |error e=>rw[h1]at h;injection h with h;subst h;exact xY h1
  |ok l=>
   rw[h1]at h;dsimp only at h;split at h
   ·injection h with h;subst h;decide
   ·cases h
theorem Ne0.basic{g:PSt->Rs}(h:Ne0S g):Ne0 (eM g):=Ne0.step.seq (Ne0.lift h)
theorem Ne0.loop{a b:Mo}(ha:Ne0 a)(hb:Ne0 b)(entry test:Ex):∀n,Ne0 (iB a b entry test n)
 |0=>Ne0.err (by decide)
 |n+1=>ha.seq (Ne0.holds fun t=>by
  cases t with
  |true=>exact Ne0.ok
  |false=>exact hb.seq ((Ne0.assert entry false).seq (Ne0.loop ha hb entry test n)))
theorem Ne0.put{a b:Mo}(back:Bool)(ha:Ne0 a)(hb:Ne0 b):Ne0 (put back a b):=by
 cases back with
 |true=>exact hb.seq ha
 |false=>exact ha.seq hb
theorem Ne0.execS(procs:List Pr)(n:Nat)(inner:Bool->Sq->Mo)(hi:∀b s,Ne0 (inner b s))(back:Bool):∀s,Ne0 (Bk.execS procs n inner back s)
 |.nil=>Ne0.ok
 |.upd op p e r=>Ne0.put back (Ne0.basic (Ne0S.upd _ _ _)) (Ne0.execS procs n inner hi back r)
 |.swp p q r=>Ne0.put back (Ne0.basic (Ne0S.swp _ _)) (Ne0.execS procs n inner hi back r)
 |.stk op s p r=>Ne0.put back (Ne0.basic (Ne0S.stk _ _ _)) (Ne0.execS procs n inner hi back r)
 |.tap op p r=>Ne0.put back (Ne0.basic (Ne0S.tap _ _)) (Ne0.execS procs n inner hi back r)
 |.cal op s ss r=>by
  refine Ne0.put back ?_ (Ne0.execS procs n inner hi back r);unfold p8;split
  ·exact Ne0.err (by decide)
  ·exact Ne0.step.seq ((Ne0.lift (Ne0S.enter _ _)).seq ((hi _ _).seq (Ne0.step.seq (Ne0.lift Ne0S.leave))))
 |.ifs e a b e' r=>Ne0.put back (Ne0.holds fun t=>(hi _ _).seq (Ne0.assert _ t)) (Ne0.execS procs n inner hi back r)
 |.frm e a b e' r=>Ne0.put back ((Ne0.assert _ _).seq (Ne0.loop (hi _ _) (hi _ _) _ _ n)) (Ne0.execS procs n inner hi back r)
 |.loc x e b e' r=>Ne0.put back (Ne0.step.seq ((Ne0.value fun v=>Ne0.lift (Ne0S.open_ _ _)).seq ((hi _ _).seq (Ne0.step.seq (Ne0.value fun v=>Ne0.lift (Ne0S.close _ _)))))) (Ne0.execS procs n inner hi back r)
 |.lst x b r=>Ne0.put back (Ne0.step.seq ((Ne0.lift (Ne0S.open_ _ _)).seq ((hi _ _).seq (Ne0.step.seq (Ne0.lift (Ne0S.close _ _)))))) (Ne0.execS procs n inner hi back r)
theorem Ne0.execP(procs:List Pr):∀n back s,Ne0 (Bk.execP procs n back s)
 |0,_,_=>Ne0.err (by decide)
 |n+1,back,s=>Ne0.execS procs n (Bk.execP procs n) (fun b s=>Ne0.execP procs n b s) back s
theorem qT{p:Pg}{back:Bool}{cells:List (List Int)}{inp out:List Int}{k:Nat}{x:Int}(h:fA p back cells inp out k=.error x):x≠0:=Ne0.execP _ _ _ _ _ _ _ h
end Bk
