/- Part of the proof. -/
import Derived.Test.YtakfdnnlhjhcfaaGreatDoorA46
set_option linter.unusedVariables false
set_option linter.unusedSimpArgs false
set_option maxRecDepth 100000
set_option maxHeartbeats 8000000
namespace Go.Proofs.YtakfdnnlhjhcfaaGreatDoor
open Go.RowKit Bk
theorem Ox(fu:Nat):Int.tmod (fu:Int) 2001=((fu%2001:Nat):Int):=by simp[Int.tmod]
theorem LB(vs:List Vr)(cs:List (List Int))(inp out:List Int):(LA vs cs inp out).toList≠ []:=by
 rw[Lib.toList_data];unfold LA;simp[ByteArray.data_append]
theorem ED{w w':World}{B:Nat}{A:Option Addr}{l:List Vr}(h:VsAt w B A l)(hb:Below B w w')(hB:B<=w'.heap.size):VsAt w' w'.heap.size A l:=fun i v hi=>by
 obtain⟨g,o,h1,h2,h3⟩:=(h.next hb) i v hi;exact⟨g,o,h1,dX h2 hB,h3⟩
theorem ProgAt.upS{w w':World}{B d nv cv nq cq:Nat}{V Q:Option Addr}{m:Nd}{p:Pg}{ps:List Pc}(h:ProgAt w B d V nv cv Q nq cq m p ps)(hb:Below B w w'):ProgAt w' w'.heap.size d V nv cv Q nq cq m p ps:=by
 have hB:B<=w'.heap.size:=fC h.hB hb.size;exact⟨aH _,ED h.vars hb hB,h.hnv,h.procs.upS hb hB,h.hnq,h.hnq2,h.len,fun i c u h1 h2=>let ⟨a1,a2,a3,a4,a5⟩:=h.pr i c u h1 h2;⟨a1,a2,a3.upS hb hB,a4,a5⟩,h.main.upS hb hB,h.kv.upS hb hB,h.cok,fun W hW=>h.valid W (hb.trans (hW.mono hB)),fun W hW=>h.check W (hb.trans (hW.mono hB))⟩
theorem TU{w:World}{B d nv cv nq cq fuel st f:Nat}{V Q:Option Addr}{m:Nd}{p:Pg}{ps:List Pc}(hp:ProgAt w B d V nv cv Q nq cq m p ps)(hm:p.main.rv)(hq:∀q,q∈p.procs->q.body.rv){cs:List (List Int)}{inp out:List Int}(eN:eS p.vars cs inp out=true)(hR:Iv cs inp out)(NO:fuel<=2000){σ:PSt}(h:fA p false cs inp out fuel=.ok (σ,f))(hst:fuel-f=st){w6 W:World}(mC:Below B w w6){uC uI uO:Value}(hs:SW w6 (·<w6.heap.size) uC uI uO σ.fin σ.inp σ.out)(hW:Below w6.heap.size w6 W):
  Calls Tryz.prog 10 #[.agg #[.slice V nv cv,.slice Q nq cq,.int .u8 m.k,.int .i64 m.num,.string m.nm,.slice m.A m.n m.cap],.agg #[uC,uI,uO],.int .i64 st] W fun e w''=>∃A1 n1 c1 A2 n2 c2 A3 n3 c3,e=.returned (.agg #[.slice A1 n1 c1,.slice A2 n2 c2,.slice A3 n3 c3,.int .i64 st,.int .i64 0])∧SW w'' (·<w''.heap.size) (.slice A1 n1 c1) (.slice A2 n2 c2) (.slice A3 n3 c3) cs inp out∧Below W.heap.size W w'':=by
 obtain⟨hi,hl,_⟩:=jU eN hR;obtain⟨xE,hk,NG⟩:=jI hm hq hi hl h;obtain⟨τ,h1,h2,h3,h4⟩:=NG st (by omega) (by omega);refine(i6 (fuel:=st) (hp.upS mC) hs (M9 eN h hk.base) (by omega) hW).mono ?_;rintro e w'' ⟨v,rfl,hr,hb⟩;rw[show fA p true σ.fin σ.inp σ.out st=_ from h1]at hr;obtain⟨vC,vI,vO,rfl,hs'⟩:=hr;dsimp only at hs'⊢;rw[h2,h3,h4]at hs';obtain⟨A1,n1,c1,A2,n2,c2,A3,n3,c3,rfl,rfl,rfl⟩:=hs'.forms;refine⟨A1,n1,c1,A2,n2,c2,A3,n3,c3,?_,hs'.map (fun _ _ _=>rfl) (fun _ h=>h.2),hb⟩;rw[show((st:Nat):Int)-((st-(fuel-f):Nat):Int)=(st:Int) by omega]
theorem Dz{w:World}{B d nv cv nq cq fuel st f:Nat}{V Q:Option Addr}{m:Nd}{p:Pg}{ps:List Pc}(hp:ProgAt w B d V nv cv Q nq cq m p ps)(hm:p.main.rv)(hq:∀q,q∈p.procs->q.body.rv){cs:List (List Int)}{inp out:List Int}(eN:eS p.vars cs inp out=true)(hR:Iv cs inp out)(NO:fuel<=2000){σ:PSt}(h:fA p true cs inp out fuel=.ok (σ,f))(hst:fuel-f=st){w6 W:World}(mC:Below B w w6){uC uI uO:Value}(hs:SW w6 (·<w6.heap.size) uC uI uO σ.fin σ.inp σ.out)(hW:Below w6.heap.size w6 W):
  Calls Tryz.prog 9 #[.agg #[.slice V nv cv,.slice Q nq cq,.int .u8 m.k,.int .i64 m.num,.string m.nm,.slice m.A m.n m.cap],.agg #[uC,uI,uO],.int .i64 st] W fun e w''=>∃A1 n1 c1 A2 n2 c2 A3 n3 c3,e=.returned (.agg #[.slice A1 n1 c1,.slice A2 n2 c2,.slice A3 n3 c3,.int .i64 st,.int .i64 0])∧SW w'' (·<w''.heap.size) (.slice A1 n1 c1) (.slice A2 n2 c2) (.slice A3 n3 c3) cs inp out∧Below W.heap.size W w'':=by
 obtain⟨hi,hl,_⟩:=jU eN hR;obtain⟨xE,hk,NG⟩:=jI hm hq hi hl h;obtain⟨τ,h1,h2,h3,h4⟩:=NG st (by omega) (by omega);refine(kH (fuel:=st) (hp.upS mC) hs (M9 eN h hk.base) (by omega) hW).mono ?_;rintro e w'' ⟨v,rfl,hr,hb⟩;rw[show fA p false σ.fin σ.inp σ.out st=_ from h1]at hr;obtain⟨vC,vI,vO,rfl,hs'⟩:=hr;dsimp only at hs'⊢;rw[h2,h3,h4]at hs';obtain⟨A1,n1,c1,A2,n2,c2,A3,n3,c3,rfl,rfl,rfl⟩:=hs'.forms;refine⟨A1,n1,c1,A2,n2,c2,A3,n3,c3,?_,hs'.map (fun _ _ _=>rfl) (fun _ h=>h.2),hb⟩;rw[show((st:Nat):Int)-((st-(fuel-f):Nat):Int)=(st:Int) by omega]
theorem FM{w:World}{d:Nat}(V:Option Addr)(nv cv:Nat)(vs:List Vr)(hv:VsAt w w.heap.size V vs)(hnv:vs.length=nv)(d8:nv<=17592186043904)(gY:nv<=cv)(rF:V=none->cv=0)(Q:Option Addr)(nq cq:Nat)(ps:List Pc)(hq:PrsAt w w.heap.size (d+1) Q ps)(hnq:ps.length=nq)(hnq2:nq<=17592186043904)(mI:∀p∈ps,p.V=none->p.cv=0)(m:Nd)(hm:KV w w.heap.size (d+1) m){vC vI vO:Value}{cs:List (List Int)}{inp out:List Int}(hS:SW w (·<w.heap.size) vC vI vO cs inp out)(hR:Iv cs inp out)(fu:Nat)(NO:fu<=65535)(P1:SymAt w):
  Calls Tryz.prog 5 #[.agg #[.slice V nv cv,.slice Q nq cq,.int .u8 m.k,.int .i64 m.num,.string m.nm,.slice m.A m.n m.cap],.agg #[vC,vI,vO],.int .u16 (fu:Int)] w fun e w'=>e=.returned (.bool true)∧Below w.heap.size w w':=by
 have XT:=aA (fun W(hW:Below w.heap.size w W)=>u6 (P1.next hW));have Nh:=aA (fun W hW=>vD (aH _) V nv cv vs hv hnv d8 gY rF Q nq cq ps hq hnq hnq2 mI m hm hS W hW);have jY:=aA (fun(hf:eS vs cs inp out=true) W(hW:Below w.heap.size w W)=>zS (V:=V) (Q:=Q) (nv:=nv) (cv:=cv) (nq:=nq) (cq:=cq) (m:=m) (aH _) hv hnv hS hf hW);have YF:=aA (fun h1 h2=>yY (aH _) V nv cv vs hv hnv d8 gY rF Q nq cq ps hq hnq hnq2 mI m hm h1 h2);have HVU:Hid (∀W,Below w.heap.size w W->VsAt W W.heap.size V vs):=aA fun W hW=>ED hv hW hW.size
 have oG:=aA hnv;have HS:=aA hS;have Ip:=aA hR;obtain⟨AC,nC,cC,AI,nI,cI,AO,nO,cO,rfl,rfl,rfl⟩:=hS.forms;clear hv hnv hq hnq mI hm hS rF d8 hnq2 gY P1 hR;obtain⟨mk,mnum,mnm,mA,mn,mcap⟩:=m;dsimp only at *;go_enter Tryz.func5,Tryz.ntmps5;go_upto_region 1 with fail;refine aB ?_;intro w1 aF;have aG:Below w.heap.size w w1:=by rw[aF];go_grown
 have K1:Blk w1 w.heap.size 28 #[.slice V nv cv,.slice Q nq cq,.int .u8 mk,.int .i64 mnum,.string mnm,.slice mA mn mcap]:=by rw[aF];exact Blk.alloc (Blk.new _ _ _) _
 have K2:Blk w1 (w.heap.size+1) 32 #[.slice AC nC cC,.slice AI nI cI,.slice AO nO cO]:=by rw[aF];exact Blk.new' (by simp) _ _
 have a9:=aA K1;have bI:=aA K2;have aO:=aA aG;clear aF aG K1 K2;go_wp2_with fail;refine(XT.out w1 aO.out).mono ?_;rintro en w2 ⟨rfl,hb2⟩;have aP:=aA (aO.out.next hb2);have JT:=aA (a9.out.next hb2);have mH:=aA (bI.out.next hb2);clear hb2 a9 bI;obtain⟨aL,aJ,aK⟩:=JT.out.open_;obtain⟨eL,eC,eF⟩:=mH.out.open_;go_wp2_with fail;refine(Nh.out w2 aP.out).mono ?_;rintro en w3 ⟨⟨b,rfl,hb⟩,aT⟩;have zJ:=aA hb;have bD:=aA (aP.out.next aT);have SG:=aA (JT.out.next aT);have IS:=aA (mH.out.next aT);clear aT hb aL aJ aK eL eC eF JT mH;cases b
 ·go_wp2_with fail
  refine(XT.out w3 bD.out).mono ?_;rintro en w4 ⟨rfl,bV⟩;have dQ:=aA (bD.out.next bV);clear bV;go_wp2_with fail;go_ret;exact⟨rfl,dQ.out⟩
 obtain⟨hok,eN⟩:=zJ.out rfl;obtain⟨p,GM,JB⟩:=YF.out hok.1 hok.2.1;subst JB;have YK:=aA (DU GM hok);have CK:=aA GM;have wX:=aA eN;have Bf:=aA (jY.out eN);clear zJ YF jY Nh XT hok eN GM;obtain⟨fi,hfi⟩:∃b,LA p.vars cs inp out=b:=⟨_,rfl⟩;rw[hfi]at Bf;have yL:fi.toList≠ []:=by rw[<-hfi];exact LB _ _ _ _
 have hfe:(fi.toList== [])=false:=by simpa using yL
 have tF:=aA hfi;clear hfi;obtain⟨aL,aJ,aK⟩:=SG.out.open_;obtain⟨eL,eC,eF⟩:=IS.out.open_;go_wp2_with fail;refine(Bf.out w3 bD.out).mono ?_;rintro en w4 ⟨rfl,bV⟩;have t6:=aA (bD.out.next bV);have Ct:=aA (SG.out.next bV);have Df:=aA (IS.out.next bV);clear bV aL aJ aK eL eC eF SG IS Bf aO aP bD;obtain⟨k,hk⟩:∃k,fu%2001=k:=⟨_,rfl⟩;have yN:k<=2000:=by omega
 have htm:Int.tmod (fu:Int) 2001=(k:Int):=by rw[Ox,hk]
 have hf0:(0:Int)<=(fu:Int):=by omega
 have U6:(fu:Int)<=65535:=by omega
 clear hk;obtain⟨q,hq⟩:∃q,fA p false cs inp out k=q:=⟨_,rfl⟩;obtain⟨aL,aJ,aK⟩:=Ct.out.open_;obtain⟨eL,eC,eF⟩:=Df.out.open_;go_wp2_with fail;refine((kH CK.out HS.out wX.out yN t6.out)).mono ?_;rintro en w6 ⟨v6,rfl,mE,mC⟩;have mG:=aA (t6.out.next mC);have oO:=aA (Ct.out.next mC);have SP:=aA (Df.out.next mC);clear mC aL aJ aK eL eC eF t6 Ct Df;rw[hq]at mE;rcases q with x|⟨σ,f⟩
 focus
  have xJ:=qT hq;obtain⟨uC,uI,uO,rfl,AP⟩:=mE;obtain⟨A1,n1,c1,A2,n2,c2,A3,n3,c3,rfl,rfl,rfl⟩:=AP.forms;have V3:(x==0)=false:=by simpa using xJ
  clear AP xJ hq;go_upto_region 6 with fail;refine aB ?_;intro wa hw7;have pE:Below w6.heap.size w6 wa:=by rw[hw7];go_grown
  have KR:Blk wa w6.heap.size 41 #[.slice A1 n1 c1,.slice A2 n2 c2,.slice A3 n3 c3,.int .i64 0,.int .i64 x]:=by rw[hw7];exact aQ
  have RL:=aA (mG.out.next pE);have SK:=aA (oO.out.next pE);have SQ:=aA (SP.out.next pE);obtain⟨wO,uH,tX⟩:=KR.open_;clear hw7 pE KR mG oO SP;go_upto_region 10 with fail;clear wO uH tX V3
 rotate_left
 focus
  obtain⟨uC,uI,uO,rfl,AP⟩:=mE;obtain⟨A1,n1,c1,A2,n2,c2,A3,n3,c3,rfl,rfl,rfl⟩:=AP.forms;have xE:f<=k:=(jI YK.out.1 YK.out.2 (jU wX.out Ip.out).1 (jU wX.out Ip.out).2.1 hq).1;obtain⟨st,hst⟩:∃st:Nat,k-f=st:=⟨_,rfl⟩;dsimp only at *;have AQ:((k:Int)-(f:Int))=(st:Int):=by omega
  have ZN:st<=k:=by omega
  have yQ:decide ((k:Int)<(st:Int))=false:=by simp;omega
  have OG:((st:Int) !=(st:Int))=false:=by simp
  rw[AQ];have Nf:=aA (fun W hW=>TU CK.out YK.out.1 YK.out.2 wX.out Ip.out yN hq hst mG.out (AP.map (D':=(·<w6.heap.size)) (fun _ _ _=>rfl) (fun _ h=>h.2)) (W:=W) hW);clear AP AQ hq hst xE;go_upto_region 6 with fail;refine aB ?_;intro w7 hw7;have pE:Below w6.heap.size w6 w7:=by rw[hw7];go_grown
  have KR:Blk w7 w6.heap.size 41 #[.slice A1 n1 c1,.slice A2 n2 c2,.slice A3 n3 c3,.int .i64 (st:Int),.int .i64 0]:=by rw[hw7];exact aQ
  have fL:=aA KR;have uF:=aA pE;have V4:=aA (mG.out.next pE);have Co:=aA (oO.out.next pE);have Dc:=aA (SP.out.next pE);clear hw7 pE KR mG oO SP;obtain⟨wO,uH,tX⟩:=fL.out.open_;obtain⟨aL,aJ,aK⟩:=Co.out.open_;go_wp2_with fail;refine(Nf.out w7 uF.out).mono ?_;rintro en w8 ⟨E1,m1,d1,E2,m2,d2,E3,m3,d3,rfl,Rr,NF⟩;have CD:=aA (V4.out.next NF);have YE:=aA (Co.out.next NF);have My:=aA (Dc.out.next NF);have U1:=aA (fL.out.next NF);have V7:=aA (fun W hW=>zS (V:=V) (Q:=Q) (nv:=nv) (cv:=cv) (nq:=nq) (cq:=cq) (m:=⟨mk,mnum,mnm,mA,mn,mcap⟩) (w:=w8) (w':=W) (aH _) (HVU.out w8 CD.out) oG.out Rr wX.out hW);rw[tF.out]at V7;clear Rr NF wO uH tX aL aJ aK Nf fL uF V4 Co Dc;go_upto_region 8 with fail;refine aB ?_;intro w9 OI;have tA:Below w8.heap.size w8 w9:=by rw[OI];go_grown
  have KL:Blk w9 w8.heap.size 41 #[.slice E1 m1 d1,.slice E2 m2 d2,.slice E3 m3 d3,.int .i64 (st:Int),.int .i64 0]:=by rw[OI];exact aQ
  have CF:=aA KL;have X3:=aA tA;have EH:=aA (CD.out.next tA);have Cp:=aA (YE.out.next tA);have Mz:=aA (My.out.next tA);have JN:=aA (U1.out.next tA);clear OI tA KL CD YE My U1;obtain⟨z_l,Zy,Vo⟩:=CF.out.open_;obtain⟨wO,uH,tX⟩:=JN.out.open_;obtain⟨aL,aJ,aK⟩:=Cp.out.open_;go_wp2_with fail;refine(V7.out w9 X3.out).mono ?_;rintro en wa ⟨rfl,lP⟩;have RL:=aA (EH.out.next lP);have SK:=aA (Cp.out.next lP);have SQ:=aA (Mz.out.next lP);clear lP z_l Zy Vo wO uH tX aL aJ aK CF JN X3 EH Cp Mz V7;go_upto_region 10 with fail;clear ZN yQ OG
 rotate_left
 all_goals
  obtain⟨q,hq⟩:∃q,fA p true cs inp out k=q:=⟨_,rfl⟩;obtain⟨aL,aJ,aK⟩:=SK.out.open_;obtain⟨eL,eC,eF⟩:=SQ.out.open_;go_wp2_with fail;refine((i6 CK.out HS.out wX.out yN RL.out)).mono ?_;rintro en w6 ⟨v6,rfl,mE,mC⟩;have mG:=aA (RL.out.next mC);have oO:=aA (SK.out.next mC);have SP:=aA (SQ.out.next mC);clear mC aL aJ aK eL eC eF RL SK SQ;rw[hq]at mE;rcases q with x|⟨σ,f⟩
  focus
   have xJ:=qT hq;obtain⟨uC,uI,uO,rfl,AP⟩:=mE;obtain⟨A1,n1,c1,A2,n2,c2,A3,n3,c3,rfl,rfl,rfl⟩:=AP.forms;have V3:(x==0)=false:=by simpa using xJ
   clear AP xJ hq;go_upto_region 11 with fail;refine aB ?_;intro we hw7;have pE:Below w6.heap.size w6 we:=by rw[hw7];go_grown
   have KR:Blk we w6.heap.size 41 #[.slice A1 n1 c1,.slice A2 n2 c2,.slice A3 n3 c3,.int .i64 0,.int .i64 x]:=by rw[hw7];exact aQ
   have Kk:=aA (mG.out.next pE);have Yk:=aA (oO.out.next pE);have Zh:=aA (SP.out.next pE);obtain⟨wO,uH,tX⟩:=KR.open_;clear hw7 pE KR mG oO SP;go_upto_region 15 with fail;clear wO uH tX V3
  rotate_left
  focus
   obtain⟨uC,uI,uO,rfl,AP⟩:=mE;obtain⟨A1,n1,c1,A2,n2,c2,A3,n3,c3,rfl,rfl,rfl⟩:=AP.forms;have xE:f<=k:=(jI YK.out.1 YK.out.2 (jU wX.out Ip.out).1 (jU wX.out Ip.out).2.1 hq).1;obtain⟨st,hst⟩:∃st:Nat,k-f=st:=⟨_,rfl⟩;dsimp only at *;have AQ:((k:Int)-(f:Int))=(st:Int):=by omega
   have ZN:st<=k:=by omega
   have yQ:decide ((k:Int)<(st:Int))=false:=by simp;omega
   have OG:((st:Int) !=(st:Int))=false:=by simp
   rw[AQ];have Nf:=aA (fun W hW=>Dz CK.out YK.out.1 YK.out.2 wX.out Ip.out yN hq hst mG.out (AP.map (D':=(·<w6.heap.size)) (fun _ _ _=>rfl) (fun _ h=>h.2)) (W:=W) hW);clear AP AQ hq hst xE;go_upto_region 11 with fail;refine aB ?_;intro w7 hw7;have pE:Below w6.heap.size w6 w7:=by rw[hw7];go_grown
   have KR:Blk w7 w6.heap.size 41 #[.slice A1 n1 c1,.slice A2 n2 c2,.slice A3 n3 c3,.int .i64 (st:Int),.int .i64 0]:=by rw[hw7];exact aQ
   have fL:=aA KR;have uF:=aA pE;have V4:=aA (mG.out.next pE);have Co:=aA (oO.out.next pE);have Dc:=aA (SP.out.next pE);clear hw7 pE KR mG oO SP;obtain⟨wO,uH,tX⟩:=fL.out.open_;obtain⟨aL,aJ,aK⟩:=Co.out.open_;go_wp2_with fail;refine(Nf.out w7 uF.out).mono ?_;rintro en w8 ⟨E1,m1,d1,E2,m2,d2,E3,m3,d3,rfl,Rr,NF⟩;have CD:=aA (V4.out.next NF);have YE:=aA (Co.out.next NF);have My:=aA (Dc.out.next NF);have U1:=aA (fL.out.next NF);have V7:=aA (fun W hW=>zS (V:=V) (Q:=Q) (nv:=nv) (cv:=cv) (nq:=nq) (cq:=cq) (m:=⟨mk,mnum,mnm,mA,mn,mcap⟩) (w:=w8) (w':=W) (aH _) (HVU.out w8 CD.out) oG.out Rr wX.out hW);rw[tF.out]at V7;clear Rr NF wO uH tX aL aJ aK Nf fL uF V4 Co Dc;go_upto_region 13 with fail;refine aB ?_;intro w9 OI;have tA:Below w8.heap.size w8 w9:=by rw[OI];go_grown
   have KL:Blk w9 w8.heap.size 41 #[.slice E1 m1 d1,.slice E2 m2 d2,.slice E3 m3 d3,.int .i64 (st:Int),.int .i64 0]:=by rw[OI];exact aQ
   have CF:=aA KL;have X3:=aA tA;have EH:=aA (CD.out.next tA);have Cp:=aA (YE.out.next tA);have Mz:=aA (My.out.next tA);have JN:=aA (U1.out.next tA);clear OI tA KL CD YE My U1;obtain⟨z_l,Zy,Vo⟩:=CF.out.open_;obtain⟨wO,uH,tX⟩:=JN.out.open_;obtain⟨aL,aJ,aK⟩:=Cp.out.open_;go_wp2_with fail;refine(V7.out w9 X3.out).mono ?_;rintro en we ⟨rfl,lP⟩;have Kk:=aA (EH.out.next lP);have Yk:=aA (Cp.out.next lP);have Zh:=aA (Mz.out.next lP);clear lP z_l Zy Vo wO uH tX aL aJ aK CF JN X3 EH Cp Mz V7;go_upto_region 15 with fail;clear ZN yQ OG
  rotate_left
  all_goals
   go_wp2_with fail;go_ret;exact⟨rfl,Kk.out⟩
end Go.Proofs.YtakfdnnlhjhcfaaGreatDoor
