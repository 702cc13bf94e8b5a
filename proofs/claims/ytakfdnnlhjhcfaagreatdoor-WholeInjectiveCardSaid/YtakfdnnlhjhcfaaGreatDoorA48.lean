/- Part of the proof. -/
import Derived.Test.YtakfdnnlhjhcfaaGreatDoorA46
set_option linter.unusedVariables false
set_option linter.unusedSimpArgs false
set_option maxRecDepth 100000
set_option maxHeartbeats 8000000
namespace Bk
open Go.RowKit
def BdS(cs:List (List Int))(inp out:List Int):Prop:=cs.length<=100000∧inp.length<=100000∧out.length<=100000∧∀l∈cs,l.length<=100000
theorem OP{σ:PSt}(h:Inv σ):σ.inp.length<=100000∧σ.out.length<=100000∧∀l,l∈σ.cells->l.length<=100000:=by
 obtain⟨kd,m,ho⟩:=h.ok;refine⟨by have:=ho.inp;omega,by have:=ho.out;omega,fun l hl=>?_⟩;obtain⟨i,hi⟩:=List.getElem?_of_mem hl;have:=(ho.one i l hi).2;omega
section
variable{p:Pg}(hm:p.main.rv)(hq:∀q,q∈p.procs->q.body.rv){back:Bool}{cs:List (List Int)}{inp out:List Int}(hi:Inv (PSt.ini p cs inp out))(hl:cs.length=p.vars.length)(hv:p.vars.length<=32)
include hi hl hv
theorem ON:BdS cs inp out:=by
 obtain⟨h1,h2,h3⟩:=OP hi;exact⟨by omega,h1,h2,h3⟩
include hm hq
theorem NB{k:Nat}{r:PSt×Nat}(h:fA p back cs inp out k=.ok r):BdS r.1.fin r.1.inp r.1.out:=by
 obtain⟨σ,f⟩:=r;obtain⟨_,hk,_⟩:=jI hm hq hi hl h;obtain⟨h1,h2,h3⟩:=OP hk.inv;have AD:σ.fin=(List.range p.vars.length).map fun i=>σ.cells.getD i []:=by unfold PSt.fin;rw[hk.base];simp[PSt.ini]
 refine⟨?_,h1,h2,?_⟩
 ·show σ.fin.length<=_
  rw[AD];simp;omega
 ·intro l hl
  have hl:l∈σ.fin:=hl;rw[AD,List.mem_map]at hl;obtain⟨i,_,rfl⟩:=hl;cases hc:σ.cells[i]? with
  |none=>simp[eX,hc]
  |some l=>simpa[eX,hc]using h3 l (List.mem_of_getElem? hc)
omit hv in
theorem VM{cs':List (List Int)}{inp' out':List Int}(U7:Inv (PSt.ini p cs' inp' out'))(oS:cs'.length=p.vars.length){r r':PSt×Nat}(h:fA p back cs inp out 2000=.ok r)(h':fA p back cs' inp' out' 2000=.ok r'):
  (decide (r.1.fin=r'.1.fin)&&(decide (r.1.inp=r'.1.inp)&&decide (r.1.out=r'.1.out)))=(decide (cs=cs')&&(decide (inp=inp')&&decide (out=out'))):=by
 rw[Bool.eq_iff_iff];simp only[Bool.and_eq_true,decide_eq_true_eq];refine⟨fun⟨a,b,c⟩=>XE hm hq hi hl U7 oS (σ:=r.1) (f:=r.2) (σ':=r'.1) (f':=r'.2) h h' a b c,?_⟩;rintro⟨rfl,rfl,rfl⟩;rw[h]at h';injection h' with h';subst h';exact⟨rfl,rfl,rfl⟩
end
end Bk
namespace Go.Proofs.YtakfdnnlhjhcfaaGreatDoor
open Go.RowKit Bk
theorem I1{w w':World}{cs:Array Value}{t:TypeId}(h:w'=w.alloc (.cells cs t)):∃b,b=w.heap.size∧Blk w' b t cs∧Below w.heap.size w w':=⟨_,rfl,by rw[h];exact Blk.new _ _ _,by rw[h];exact(aM _ _).alloc (aH _) _⟩
section
variable{w w':World}{lo hi:Nat}{vC vI vO:Value}{cs:List (List Int)}{inp out:List Int}(h:SW w (fun k=>lo<=k∧k<hi) vC vI vO cs inp out)
include h
theorem SW.num(hb:Below w.heap.size w w')(hh:hi<=w.heap.size):SW w' (fun k=>lo<=k∧k<hi) vC vI vO cs inp out:=h.map (fun b o hd=>hb.cell (p:=⟨b,o,none⟩) (dX hd.2 hh)) fun _ h=>h
theorem SW.off{x y:Nat}(hh:hi<=w.heap.size)(hx:x<lo∨hi<=x)(hy:y<lo∨hi<=y):SW w (fun k=>k<w.heap.size∧k≠x∧k≠y) vC vI vO cs inp out:=h.map (fun _ _ _=>rfl) fun k hk=>by obtain⟨h1,h2⟩:=hk;exact⟨by omega,by omega,by omega⟩
omit h in
theorem SW.fr1{x y z:Nat}(h:SW w (fun k=>k<w.heap.size∧k≠x∧k≠y) vC vI vO cs inp out)(hf:Fr (fun k=>k=z) w w')(hz:z=x∨z=y):SW w' (fun k=>k<w'.heap.size∧k≠x∧k≠y) vC vI vO cs inp out:=h.map (fun q o hd=>hf.cell hd.1 (fun e=>by have e:q=z:=e;have:=hd.2;omega) o) fun k hk=>⟨dX hk.1 hf.size,hk.2⟩
omit h in
theorem SW.all{x y:Nat}(h:SW w (fun k=>k<w.heap.size∧k≠x∧k≠y) vC vI vO cs inp out):SW w (·<w.heap.size) vC vI vO cs inp out:=h.map (fun _ _ _=>rfl) fun k hk=>hk.1
end
def RsP(q:Except Int (PSt×Nat))(v:Value)(D:Nat->Prop)(W:World):Prop:=∃A n c A' n' c' A'' n'' c'' st er cs inp out,v=.agg #[.slice A n c,.slice A' n' c',.slice A'' n'' c'',.int .i64 st,.int .i64 er]∧SW W D (.slice A n c) (.slice A' n' c') (.slice A'' n'' c'') cs inp out∧(er=0->∃r,q=.ok r∧cs=r.1.fin∧inp=r.1.inp∧out=r.1.out)
theorem RsP.of{p:Pg}{back:Bool}{cs:List (List Int)}{inp out:List Int}{k lo:Nat}{v:Value}{W:World}(h:ResP cs inp out k (fA p back cs inp out k) v lo W):RsP (fA p back cs inp out k) v (fun k=>lo<=k∧k<W.heap.size) W:=by
 cases hq:fA p back cs inp out k with
 |error x=>
  have hx:=qT hq;rw[hq]at h;obtain⟨uC,uI,uO,rfl,hs⟩:=h;obtain⟨A,n,c,A',n',c',A'',n'',c'',rfl,rfl,rfl⟩:=hs.forms;exact⟨_,_,_,_,_,_,_,_,_,_,_,_,_,_,rfl,hs,fun e=>absurd e hx⟩
 |ok r=>
  rw[hq]at h;obtain⟨uC,uI,uO,rfl,hs⟩:=h;obtain⟨A,n,c,A',n',c',A'',n'',c'',rfl,rfl,rfl⟩:=hs.forms;exact⟨_,_,_,_,_,_,_,_,_,_,_,_,_,_,rfl,hs,fun _=>⟨r,rfl,rfl,rfl,rfl⟩⟩
def Zz(q q':Except Int (PSt×Nat))(w0:World)(v9 v10:Value)(W:World):Prop:=∃b9 b10 CA CB,v9=.pointer (some ⟨b9,0,none⟩)∧v10=.pointer (some ⟨b10,0,none⟩)∧Blk W b9 41 CA∧Blk W b10 41 CB∧RsP q (.agg CA) (·<W.heap.size) W∧RsP q' (.agg CB) (·<W.heap.size) W∧Below w0.heap.size w0 W
theorem T5{P:Program}{md:Region.Mode}{ops:Array Oper}{Q:Exit->Act->World->Prop}{S:World->Prop}{fuel:Nat}{listed:Array Bool}{a:Act}{w:World}(L:Array Bool)(n:Nat)(J:Act->Act->World->Prop)(aAq:∀a' w',J a a' w'->wpAnyH P md ops Q S n L a' w')(h:Hid (∀a' w',J a a' w'->wpAnyH P md ops Q S n L a' w')->wpAnyH P md ops Q S fuel listed a w):wpAnyH P md ops Q S fuel listed a w:=h (aA aAq)
theorem IC{P:Program}{md:Region.Mode}{ops:Array Oper}{Q:Exit->Act->World->Prop}{S:World->Prop}{fuel n:Nat}{listed L:Array Bool}{a:Act}{w:World}(hf:fuel=n)(hl:listed=L)(h:wpAnyH P md ops Q S n L a w):wpAnyH P md ops Q S fuel listed a w:=by subst hf;subst hl;exact h
def Lf(q q':Except Int (PSt×Nat))(w0:World)(a0 a:Act)(W:World):Prop:=∃(b9 b10:Nat)(vA vB:Array Value),a=(((a0.put (some 35) (.agg vA)).put (some 39) (.agg vB)).put (some 9) (.pointer (some ⟨b9,0,none⟩))).put (some 10) (.pointer (some ⟨b10,0,none⟩))∧b9≠b10∧(w0.heap.size<=b9∧w0.heap.size<=b10)∧
 Blk W b9 41 #[.slice none 0 0,.slice none 0 0,.slice none 0 0,.int .i64 0,.int .i64 0]∧Blk W b10 41 #[.slice none 0 0,.slice none 0 0,.slice none 0 0,.int .i64 0,.int .i64 0]∧RsP q (.agg vA) (fun k=>k<W.heap.size∧k≠b9∧k≠b10) W∧RsP q' (.agg vB) (fun k=>k<W.heap.size∧k≠b9∧k≠b10) W∧Below w0.heap.size w0 W
theorem uS{w:World}{d:Nat}(V:Option Addr)(nv cv:Nat)(vs:List Vr)(hv:VsAt w w.heap.size V vs)(hnv:vs.length=nv)(d8:nv<=17592186043904)(gY:nv<=cv)(rF:V=none->cv=0)(Q:Option Addr)(nq cq:Nat)(ps:List Pc)(hq:PrsAt w w.heap.size (d+1) Q ps)(hnq:ps.length=nq)(hnq2:nq<=17592186043904)(mI:∀p∈ps,p.V=none->p.cv=0)(m:Nd)(hm:KV w w.heap.size (d+1) m){vC vI vO:Value}{cs:List (List Int)}{inp out:List Int}(hS:SW w (·<w.heap.size) vC vI vO cs inp out)(hR:Iv cs inp out){tC tI tO:Value}{cs':List (List Int)}{inp' out':List Int}(hT:SW w (·<w.heap.size) tC tI tO cs' inp' out')(hR':Iv cs' inp' out')(P1:SymAt w):
  Calls Tryz.prog 4 #[.agg #[.slice V nv cv,.slice Q nq cq,.int .u8 m.k,.int .i64 m.num,.string m.nm,.slice m.A m.n m.cap],.agg #[vC,vI,vO],.agg #[tC,tI,tO]] w fun e w'=>e=.returned (.bool true)∧Below w.heap.size w w':=by
 have XT:=aA (fun W(hW:Below w.heap.size w W)=>u6 (P1.next hW));have Nh:=aA (fun W hW=>vD (aH _) V nv cv vs hv hnv d8 gY rF Q nq cq ps hq hnq hnq2 mI m hm hS W hW);have HU2:=aA (fun W hW=>vD (aH _) V nv cv vs hv hnv d8 gY rF Q nq cq ps hq hnq hnq2 mI m hm hT W hW);have YF:=aA (fun h1 h2=>yY (aH _) V nv cv vs hv hnv d8 gY rF Q nq cq ps hq hnq hnq2 mI m hm h1 h2);have HS:=aA hS;have HT:=aA hT;have HR:=aA hR;have HR':=aA hR';obtain⟨AC,nC,cC,AI,nI,cI,AO,nO,cO,rfl,rfl,rfl⟩:=hS.forms;obtain⟨BC,uC,dC,BI,uI,dI,BO,uO,dO,rfl,rfl,rfl⟩:=hT.forms;clear hv hnv hq hnq mI hm hS hT rF d8 hnq2 gY P1 hR hR';obtain⟨mk,mnum,mnm,mA,mn,mcap⟩:=m;dsimp only at *;go_enter Tryz.func4,Tryz.ntmps4;go_upto_region 1 with fail;refine aB ?_;intro w1 aF;have aG:Below w.heap.size w w1:=by rw[aF];go_grown
 have K1:Blk w1 w.heap.size 28 #[.slice V nv cv,.slice Q nq cq,.int .u8 mk,.int .i64 mnum,.string mnm,.slice mA mn mcap]:=by rw[aF];exact Blk.alloc (Blk.alloc (Blk.new _ _ _) _) _
 have K2:Blk w1 (w.heap.size+1) 32 #[.slice AC nC cC,.slice AI nI cI,.slice AO nO cO]:=by rw[aF];exact Blk.alloc (Blk.new' (by simp) _ _) _
 have K3:Blk w1 (w.heap.size+2) 32 #[.slice BC uC dC,.slice BI uI dI,.slice BO uO dO]:=by rw[aF];exact Blk.new' (by simp) _ _
 have a9:=aA K1;have bI:=aA K2;have dD:=aA K3;have aO:=aA aG;clear aF aG K1 K2 K3;go_wp2_with fail;refine(XT.out w1 aO.out).mono ?_;rintro en w2 ⟨rfl,hb2⟩;have aP:=aA (aO.out.next hb2);have JT:=aA (a9.out.next hb2);have mH:=aA (bI.out.next hb2);have Iq:=aA (dD.out.next hb2);clear hb2 a9 bI dD;obtain⟨aL,aJ,aK⟩:=JT.out.open_;obtain⟨eL,eC,eF⟩:=mH.out.open_;go_wp2_with fail;refine(Nh.out w2 aP.out).mono ?_;rintro en w3 ⟨⟨b,rfl,hb⟩,aT⟩;have bD:=aA (aP.out.next aT);have SG:=aA (JT.out.next aT);have IS:=aA (mH.out.next aT);have Zj:=aA (Iq.out.next aT);have zJ:=aA hb;clear aT hb aL aJ aK eL eC eF JT mH Iq;cases b
 ·go_wp2_with fail
  refine(XT.out w3 bD.out).mono ?_;rintro en w4 ⟨rfl,bV⟩;have dQ:=aA (bD.out.next bV);clear bV;go_wp2_with fail;go_ret;exact⟨rfl,dQ.out⟩
 obtain⟨aL,aJ,aK⟩:=SG.out.open_;obtain⟨rJ,mK,mJ⟩:=Zj.out.open_;go_wp2_with fail;refine(HU2.out w3 bD.out).mono ?_;rintro en w4 ⟨⟨b,rfl,hb⟩,bV⟩;have dQ:=aA (bD.out.next bV);have HP4:=aA (SG.out.next bV);have HS4:=aA (IS.out.next bV);have HT4:=aA (Zj.out.next bV);have E9:=aA hb;clear bV hb aL aJ aK rJ mK mJ SG IS Zj;cases b
 ·go_wp2_with fail
  refine(XT.out w4 dQ.out).mono ?_;rintro en w5 ⟨rfl,cW⟩;have gL:=aA (dQ.out.next cW);clear cW;go_wp2_with fail;go_ret;exact⟨rfl,gL.out⟩
 obtain⟨hok,eN⟩:=zJ.out trivial;obtain⟨_,NN⟩:=E9.out rfl;obtain⟨p,GM,JB⟩:=YF.out hok.1 hok.2.1;subst JB;obtain⟨hm,hq⟩:=DU GM hok;obtain⟨hi,hl,GO⟩:=jU eN HR.out;obtain⟨U7,oS,_⟩:=jU NN HR'.out;have CK:=aA GM;have HF:=aA eN;have Kz:=aA NN;have Tj:=aA (ON hi hl GO);have Kd:=aA (ON U7 oS GO);have Ik:=aA (fun(back:Bool)(r:PSt×Nat)(h:fA p back cs inp out 2000=.ok r)=>NB hm hq hi hl GO h);have Lg:=aA (fun(back:Bool)(r:PSt×Nat)(h:fA p back cs' inp' out' 2000=.ok r)=>NB hm hq U7 oS GO h);have HEQ:=aA (fun(back:Bool)(r r':PSt×Nat)(h:fA p back cs inp out 2000=.ok r)(h':fA p back cs' inp' out' 2000=.ok r')=>VM hm hq hi hl U7 oS h h');clear zJ E9 YF Nh HU2 XT hok eN NN GM hm hq hi hl GO U7 oS HR HR';go_upto_region 4 with fail;refine aB ?_;intro w5 jS;have cW:Below w4.heap.size w4 w5:=by rw[jS];go_grown
 have KF:Blk w5 w4.heap.size 37 #[.func (.func 9) #[] #[],.func (.func 10) #[] #[]]:=by rw[jS];exact Blk.new _ _ _
 have RZ:=aA KF;have gL:=aA (dQ.out.next cW);have oN:=aA (HP4.out.next cW);have YL:=aA (HS4.out.next cW);have HT5:=aA (HT4.out.next cW);have hz4:w.heap.size<=w4.heap.size:=dQ.out.size;clear jS cW KF HP4 HS4 HT4
 go_loopw [28] (fun v28 wr=>∃j:Nat,j<=2∧v28=.int .i64 j∧Below w5.heap.size w5 wr) (fun v _=>2-(intOf v).toNat)
 case atStart=>exact⟨0,fI _,rfl,aM _ _⟩
 case round=>
  obtain⟨j,hj,rfl,cF⟩:=hrel;have cG:=aA (gL.out.next cF);have HX:=aA cF;have QP:=aA (oN.out.next cF);have Tz:=aA (YL.out.next cF);have Ud:=aA (HT5.out.next cF);have QM:=aA (RZ.out.next cF);clear cF;by_cases e9:j<2
  ·have yL:∃(g:FuncId)(back:Bool),wr.cell? ⟨w4.heap.size,j,none⟩=some (.func (.func g) #[] #[])∧(∀(args:Array Value)(w:World),(callFunc g args).run Tryz.prog w=.ok (.enter g args) w)∧Hid (∀W,Below w.heap.size w W->Calls Tryz.prog g #[.agg #[.slice V nv cv,.slice Q nq cq,.int .u8 mk,.int .i64 mnum,.string mnm,.slice mA mn mcap],.agg #[.slice AC nC cC,.slice AI nI cI,.slice AO nO cO],.int .i64 2000] W fun e w''=>∃v,e=.returned v∧RsP (fA p back cs inp out 2000) v (fun k=>W.heap.size<=k∧k<w''.heap.size) w''∧Below W.heap.size W w'')∧
     Hid (∀W,Below w.heap.size w W->Calls Tryz.prog g #[.agg #[.slice V nv cv,.slice Q nq cq,.int .u8 mk,.int .i64 mnum,.string mnm,.slice mA mn mcap],.agg #[.slice BC uC dC,.slice BI uI dI,.slice BO uO dO],.int .i64 2000] W fun e w''=>∃v,e=.returned v∧RsP (fA p back cs' inp' out' 2000) v (fun k=>W.heap.size<=k∧k<w''.heap.size) w''∧Below W.heap.size W w''):=by
    match j,e9 with
    |0,_=>exact⟨9,false,QM.out.cell 0,fun _ _=>rfl,aA fun W hW=>(kH (fuel:=2000) CK.out HS.out HF.out (aH _) hW).mono fun e w''⟨v,h1,h2,h3⟩=>⟨v,h1,RsP.of h2,h3⟩,aA fun W hW=>(kH (fuel:=2000) CK.out HT.out Kz.out (aH _) hW).mono fun e w''⟨v,h1,h2,h3⟩=>⟨v,h1,RsP.of h2,h3⟩⟩
    |1,_=>exact⟨10,true,QM.out.cell 1,fun _ _=>rfl,aA fun W hW=>(i6 (fuel:=2000) CK.out HS.out HF.out (aH _) hW).mono fun e w''⟨v,h1,h2,h3⟩=>⟨v,h1,RsP.of h2,h3⟩,aA fun W hW=>(i6 (fuel:=2000) CK.out HT.out Kz.out (aH _) hW).mono fun e w''⟨v,h1,h2,h3⟩=>⟨v,h1,RsP.of h2,h3⟩⟩
   obtain⟨g,back,cf,eg',tH,JW⟩:=yL;have j0:(0:Int)<=(j:Int):=by omega
   have j1:(j:Int)<2:=by omega
   go_upto_region 6 with fail
   go_cut [9,10] (fun v9 v10 wx=>Zz (fA p back cs inp out 2000) (fA p back cs' inp' out' 2000) wr v9 v10 wx)
   case first=>
    refine wp_region_held_drew (S:=fun W=>Below wr.heap.size wr W) (by kernel_rfl) ((aM _ _).drew) (fun hH=>?_);refine aE ?_;intro wn bP;have hX:Below wr.heap.size wr wn:=by rw[bP];exact(aM _ _).drew
    replace hH:Below wr.heap.size wr wn:=hX;clear bP;refine aW 0 (v:=?_) rfl hH ?_;(try simp only[PU,aD])
    refine cH 1 (v:=?_) rfl ?hy hH ?_
    case hy=>(intro bW aN;have t:=(QP.out.next aN).cell;clear aN;go_simp;try with_reducible rfl)
    (try simp only[PU,aD])
    refine cH 2 (v:=?_) rfl ?hy hH ?_
    case hy=>(intro bW aN;have t:=(Tz.out.next aN).cell;clear aN;go_simp;try with_reducible rfl)
    (try simp only[PU,aD])
    refine aW 4 (v:=?_) rfl hH ?_;(try simp only[PU,aD])
    refine cH 5 (v:=?_) rfl ?hy hH ?_
    case hy=>(intro bW aN;have t:=(QP.out.next aN).cell;clear aN;go_simp;try with_reducible rfl)
    (try simp only[PU,aD])
    refine cH 6 (v:=?_) rfl ?hy hH ?_
    case hy=>(intro bW aN;have t:=(Ud.out.next aN).cell;clear aN;go_simp;try with_reducible rfl)
    (try simp only[PU,aD])
    refine T5 #[true,true,true,true,true,true,true,true,true,true,false,false] 2 (Lf (fA p back cs inp out 2000) (fA p back cs' inp' out' 2000) wr) ?_ (fun LF=>?_)
    ·rintro a_ wn ⟨b9,b10,vA,vB,rfl,dG,⟨hl9,aA6⟩,k9,WH,⟨Aa,na,ca,Ba,ma,da,Ca,la,ea,sta,era,csa,ina,ota,ea_,ra,qa⟩,⟨Ab,nb,cb,Bb,mb,db,Cb,lb,eb,stb,erb,csb,inb,otb,eb_,rb,qb⟩,hX⟩
     injection ea_ with ea_;injection eb_ with eb_;subst ea_;subst eb_;have Cv:=aA qa;have Cw:=aA qb;clear qa qb QP Tz Ud tH JW hH;(try simp only[PU,aD])
     refine cE 10 (by kernel_rfl) rfl (fun K hK=>?_);obtain⟨rJ,mK,mJ⟩:=k9.open_;go_simp;refine hK.out _ _ ?h1 (fun hH=>?_)
     case h1=>exact hX.trans (Fr.below (O:=fun k=>k=b9) (by repeat (first|exact Fr.refl _ _|(refine Fr.set ?_ ?_ _;rotate_left;exact rfl))) hX.size (fun k hk=>by rw[hk];omega))
     clear hK rJ mK mJ;(try simp only[PU,aD])
     refine cK ?_;intro wf fG;have kf10:Blk wf b9 41 #[.slice Aa na ca,.slice Ba ma da,.slice Ca la ea,.int .i64 sta,.int .i64 era]:=by rw[fG];simpa using(((((k9.set_ 0 _).set_ 1 _).set_ 2 _).set_ 3 _).set_ 4 _)
     have ff:Fr (fun k=>k=b9) wn wf:=by rw[fG];repeat (first|exact Fr.refl _ _|(refine Fr.set ?_ ?_ _;rotate_left;exact rfl))
     rw[<-fG]at hH;have aBg:=ff.size;replace ra:=ra.fr1 ff (.inl rfl);replace rb:=rb.fr1 ff (.inl rfl);replace hX:=hH;replace WH:=ff.blk WH (by omega);clear fG ff;refine cE 11 (by kernel_rfl) rfl (fun K hK=>?_);obtain⟨rJ,mK,mJ⟩:=WH.open_;go_simp;refine hK.out _ _ ?h1 (fun hH=>?_)
     case h1=>exact hX.trans (Fr.below (O:=fun k=>k=b10) (by repeat (first|exact Fr.refl _ _|(refine Fr.set ?_ ?_ _;rotate_left;exact rfl))) hX.size (fun k hk=>by rw[hk];omega))
     clear hK rJ mK mJ;(try simp only[PU,aD])
     refine wpAnyH_done (by kernel_rfl) ?_ _;refine eZ ?_;intro wg fG;have kf11:Blk wg b10 41 #[.slice Ab nb cb,.slice Bb mb db,.slice Cb lb eb,.int .i64 stb,.int .i64 erb]:=by rw[fG];simpa using(((((WH.set_ 0 _).set_ 1 _).set_ 2 _).set_ 3 _).set_ 4 _)
     have ff:Fr (fun k=>k=b10) wf wg:=by rw[fG];repeat (first|exact Fr.refl _ _|(refine Fr.set ?_ ?_ _;rotate_left;exact rfl))
     rw[<-fG]at hH;have aBh:=ff.size;replace ra:=ra.fr1 ff (.inr rfl);replace rb:=rb.fr1 ff (.inr rfl);replace hX:=hH;replace kf10:=ff.blk kf10 (by omega);clear fG ff;have EN:=aA hH;clear hX hH;go_wp2_with fail;go_meet;exact⟨b9,b10,_,_,rfl,rfl,kf10,kf11,⟨_,_,_,_,_,_,_,_,_,_,_,_,_,_,rfl,ra.all,Cv.out⟩,⟨_,_,_,_,_,_,_,_,_,_,_,_,_,_,rfl,rb.all,Cw.out⟩,EN.out⟩
    have hz0:=hX.size
    iterate 4
     all_goals first|(refine wpAnyH_ready (rs:= [3,8,9]) (by decide+kernel) (by simp) ?_;refine AllReadyH.cons rfl (fun K hK=>?_) (AllReadyH.cons rfl (fun K hK=>?_) (AllReadyH.cons rfl (fun K hK=>?_) (AllReadyH.nil))))|(refine wpAnyH_ready (rs:= [7,8,9]) (by decide+kernel) (by simp) ?_;refine AllReadyH.cons rfl (fun K hK=>?_) (AllReadyH.cons rfl (fun K hK=>?_) (AllReadyH.cons rfl (fun K hK=>?_) (AllReadyH.nil))))|(refine wpAnyH_ready (rs:= [3,8]) (by decide+kernel) (by simp) ?_;refine AllReadyH.cons rfl (fun K hK=>?_) (AllReadyH.cons rfl (fun K hK=>?_) (AllReadyH.nil)))|(refine wpAnyH_ready (rs:= [3,9]) (by decide+kernel) (by simp) ?_;refine AllReadyH.cons rfl (fun K hK=>?_) (AllReadyH.cons rfl (fun K hK=>?_) (AllReadyH.nil)))|(refine wpAnyH_ready (rs:= [7,8]) (by decide+kernel) (by simp) ?_;refine AllReadyH.cons rfl (fun K hK=>?_) (AllReadyH.cons rfl (fun K hK=>?_) (AllReadyH.nil)))|(refine wpAnyH_ready (rs:= [7,9]) (by decide+kernel) (by simp) ?_;refine AllReadyH.cons rfl (fun K hK=>?_) (AllReadyH.cons rfl (fun K hK=>?_) (AllReadyH.nil)))|(refine wpAnyH_ready (rs:= [8,9]) (by decide+kernel) (by simp) ?_;refine AllReadyH.cons rfl (fun K hK=>?_) (AllReadyH.cons rfl (fun K hK=>?_) (AllReadyH.nil)))|(refine wpAnyH_ready (rs:= [3]) (by decide+kernel) (by simp) ?_;refine AllReadyH.cons rfl (fun K hK=>?_) (AllReadyH.nil))|(refine wpAnyH_ready (rs:= [7]) (by decide+kernel) (by simp) ?_;refine AllReadyH.cons rfl (fun K hK=>?_) (AllReadyH.nil))|(refine wpAnyH_ready (rs:= [8]) (by decide+kernel) (by simp) ?_;refine AllReadyH.cons rfl (fun K hK=>?_) (AllReadyH.nil))|(refine wpAnyH_ready (rs:= [9]) (by decide+kernel) (by simp) ?_;refine AllReadyH.cons rfl (fun K hK=>?_) (AllReadyH.nil))
     all_goals go_simp
     all_goals first|(refine(tH.out _ (cG.out.next hX)).mono ?_;rintro en wn ⟨va,rfl,mV,aR⟩;(try replace ra:=ra.num aR (by omega));(try replace rb:=rb.num aR (by omega));(try replace ka:=ka.next aR);(try replace kb:=kb.next aR);have hzn:=aR.size;replace hX:=hX.next aR;obtain⟨Aa,na,ca,Ba,ma,da,Ca,la,ea,sta,era,csa,ina,ota,rfl,ra,Qa⟩:=mV;have Cv:=aA Qa;refine hK.out _ _ hX (fun hH=>?_);clear hK Qa aR;(try simp only[PU,aD]))|(refine(JW.out _ (cG.out.next hX)).mono ?_;rintro en wn ⟨vb,rfl,hrb,aR⟩;(try replace ra:=ra.num aR (by omega));(try replace rb:=rb.num aR (by omega));(try replace ka:=ka.next aR);(try replace kb:=kb.next aR);have hzn:=aR.size;replace hX:=hX.next aR;obtain⟨Ab,nb,cb,Bb,mb,db,Cb,lb,eb,stb,erb,csb,inb,otb,rfl,rb,Qb⟩:=hrb;have Cw:=aA Qb;refine hK.out _ _ hX (fun hH=>?_);clear hK Qb aR;(try simp only[PU,aD]))|(refine hK.out _ _ (hX.alloc hX.size _) (fun hH=>?_);clear hK;(try simp only[PU,aD]);refine cK ?_;intro wn bS;(first|(have t9_:=ka;obtain⟨bb,sT,kb,aR⟩:=I1 bS;have aAY:=kb.lt;rw[<-sT];have f8:=Nat.le_of_eq sT;have cF:=Nat.le_of_eq sT.symm;clear sT;replace ka:=ka.next aR)|(obtain⟨ba,lP,ka,aR⟩:=I1 bS;have aAX:=ka.lt;rw[<-lP];have hal:=Nat.le_of_eq lP;have har:=Nat.le_of_eq lP.symm;clear lP));(try replace ra:=ra.num aR (by omega));(try replace rb:=rb.num aR (by omega));have hzn:=aR.size;replace hX:=hX.next aR;replace hH:=hX;clear bS aR)
    all_goals refine IC (by kernel_rfl) (by kernel_rfl) (LF.out _ _ ?_)
    all_goals first|(refine⟨ba,bb,#[.slice Aa na ca,.slice Ba ma da,.slice Ca la ea,.int .i64 sta,.int .i64 era],#[.slice Ab nb cb,.slice Bb mb db,.slice Cb lb eb,.int .i64 stb,.int .i64 erb],?_,?_⟩;(focus (simp only[Act.put,List.setIfInBounds_toArray,List.set_cons_zero,List.set_cons_succ];done));exact⟨by omega,⟨by omega,by omega⟩,ka,kb,⟨_,_,_,_,_,_,_,_,_,_,_,_,_,_,rfl,ra.off (by omega) (by omega) (by omega),Cv.out⟩,⟨_,_,_,_,_,_,_,_,_,_,_,_,_,_,rfl,rb.off (by omega) (by omega) (by omega),Cw.out⟩,hX⟩)|(refine⟨bb,ba,#[.slice Aa na ca,.slice Ba ma da,.slice Ca la ea,.int .i64 sta,.int .i64 era],#[.slice Ab nb cb,.slice Bb mb db,.slice Cb lb eb,.int .i64 stb,.int .i64 erb],?_,?_⟩;(focus (simp only[Act.put,List.setIfInBounds_toArray,List.set_cons_zero,List.set_cons_succ];done));exact⟨by omega,⟨by omega,by omega⟩,kb,ka,⟨_,_,_,_,_,_,_,_,_,_,_,_,_,_,rfl,ra.off (by omega) (by omega) (by omega),Cv.out⟩,⟨_,_,_,_,_,_,_,_,_,_,_,_,_,_,rfl,rb.off (by omega) (by omega) (by omega),Cw.out⟩,hX⟩)
   case rest=>
    obtain⟨b9,b10,CA,CB,rfl,rfl,k9,WH,ra,rb,U5⟩:=hcut;generalize wc=w7 at *;obtain⟨A1,n1,c1,A2,n2,c2,A3,n3,c3,sa,ea,csa,ina,ota,ea_,ra,qa⟩:=ra;obtain⟨B1,m1,d1,B2,m2,d2,B3,m3,d3,sb,eb,csb,inb,otb,eb_,rb,qb⟩:=rb;injection ea_ with ea_;injection eb_ with eb_;subst ea_;subst eb_;have JN:=aA k9;have EO:=aA WH;have V4:=aA (cG.out.next U5);have uF:=aA (HX.out.next U5);have Dc:=aA (Tz.out.next U5);have HT7:=aA (Ud.out.next U5);have HRa:=aA ra;have HRb:=aA rb;have Cv:=aA qa;have Cw:=aA qb;clear k9 WH ra rb qa qb U5 QP Tz Ud tH JW cf eg';have jZ:Hid (∀W:World,Below w7.heap.size w7 W->Hid (Below w5.heap.size w5 W)):=aA fun W hW=>aA (uF.out.next hW)
    by_cases Uq:ea=0
    ·obtain⟨ra',Vj,ea1,ea2,ea3⟩:=Cv.out Uq
     subst Uq;by_cases Ur:eb=0
     ·obtain⟨rb',qb1,eb1,eb2,eb3⟩:=Cw.out Ur
      subst Ur;have up:∀{W W':World}{vC vI vO:Value}{cs:List (List Int)}{inp out:List Int},SW W (·<W.heap.size) vC vI vO cs inp out->Below W.heap.size W W'->SW W' (·<W'.heap.size) vC vI vO cs inp out:=fun h hW=>h.map (fun b o hd=>hW.cell (p:=⟨b,o,none⟩) hd) fun k hk=>dX hk hW.size
      have T9:Hid (∀W,Below w7.heap.size w7 W->Calls Tryz.prog 12 #[.agg #[.slice A1 n1 c1,.slice A2 n2 c2,.slice A3 n3 c3],.agg #[.slice B1 m1 d1,.slice B2 m2 d2,.slice B3 m3 d3]] W fun e w''=>e=.returned (.bool (decide (csa=csb)&&(decide (ina=inb)&&decide (ota=otb))))∧Below W.heap.size W w''):=aA fun W hW=>rN (up HRa.out hW) (up HRb.out hW) (fun _ h=>h) (fun _ h=>h) (by rw[ea1,ea2,ea3];exact Ik.out _ _ Vj) (by rw[eb1,eb2,eb3];exact Lg.out _ _ qb1)
      have EI:Hid (∀W,Below w7.heap.size w7 W->Calls Tryz.prog 12 #[.agg #[.slice AC nC cC,.slice AI nI cI,.slice AO nO cO],.agg #[.slice BC uC dC,.slice BI uI dI,.slice BO uO dO]] W fun e w''=>e=.returned (.bool (decide (cs=cs')&&(decide (inp=inp')&&decide (out=out'))))∧Below W.heap.size W w''):=aA fun W hW=>rN (up HS.out (V4.out.next hW)) (up HT.out (V4.out.next hW)) (fun _ h=>h) (fun _ h=>h) Tj.out Kd.out
      have ZD:(decide (csa=csb)&&(decide (ina=inb)&&decide (ota=otb)))=(decide (cs=cs')&&(decide (inp=inp')&&decide (out=out'))):=by rw[ea1,ea2,ea3,eb1,eb2,eb3];exact HEQ.out _ _ _ Vj qb1
      rw[ZD]at T9;generalize (decide (cs=cs')&&(decide (inp=inp')&&decide (out=out')))=r at T9 EI;clear ZD up ea1 ea2 ea3 eb1 eb2 eb3 Vj qb1 Cv Cw HEQ Ik Lg Tj Kd HRa HRb HS HT V4 uF;cases r
      all_goals
       go_upto_region 7 with fail;refine gJ (by kernel_rfl) (by kernel_rfl) ?_;intro W hW;have AM:Nonempty (JE W):=⟨⟨W,aM _ _⟩⟩;have wZ:=aA (fun z=>(show Below w7.heap.size w7 (grow W z) by rw[<-hW];exact dM W z));have Z_9:=fun z=>(JN.out.next (wZ.out z)).cell
       have Z_10:=fun z=>(EO.out.next (wZ.out z)).cell
       have Z_2:=fun z=>(Dc.out.next (wZ.out z)).cell
       have Z_3:=fun z=>(HT7.out.next (wZ.out z)).cell
       clear hW
       repeat (go_big_quiet_step ((first|(go_at_call 12;with_reducible exact gS (T9.out _ (wZ.out _)))|(go_at_call 12;with_reducible exact gS (EI.out _ (wZ.out _))))))
       clear Z_9 Z_10 Z_2 Z_3;refine wpQuiet_nil ?_;rintro _ ⟨z,rfl⟩;have U3:=jZ.out _ (wZ.out z);generalize grow W z=w8 at U3⊢;clear wZ AM jZ;go_wp2_with fail;exact⟨⟨j+1,by omega,by go_num,U3.out⟩,by simp[intOf];omega⟩
     ·have xA:(eb==0)=false:=by simpa using Ur
      clear Ur ea1 ea2 ea3 Vj;obtain⟨z_9,T_9,F_9⟩:=JN.out.open_;obtain⟨aAO,Zw,Vm⟩:=EO.out.open_;have U3:=jZ.out _ (aM _ _);go_upto_region 7 with fail;go_quiet (fail);go_wp2_with fail;exact⟨⟨j+1,by omega,by go_num,Bk.drewN_ U3.out _⟩,by simp[intOf];omega⟩
    ·have ha0:(ea==0)=false:=by simpa using Uq
     clear Uq;obtain⟨z_9,T_9,F_9⟩:=JN.out.open_;obtain⟨aAO,Zw,Vm⟩:=EO.out.open_;have U3:=jZ.out _ (aM _ _);go_upto_region 7 with fail;go_quiet (fail);go_wp2_with fail;exact⟨⟨j+1,by omega,by go_num,Bk.drewN_ U3.out _⟩,by simp[intOf];omega⟩
  ·obtain rfl:j=2:=by omega
   go_wp2_with fail;go_ret;exact⟨rfl,cG.out⟩
end Go.Proofs.YtakfdnnlhjhcfaaGreatDoor
