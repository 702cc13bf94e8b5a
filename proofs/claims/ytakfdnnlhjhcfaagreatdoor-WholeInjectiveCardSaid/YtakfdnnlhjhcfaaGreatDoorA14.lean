/- Part of the proof. -/
import Derived.Test.YtakfdnnlhjhcfaaGreatDoorA13
set_option linter.unusedVariables false
set_option linter.unusedSimpArgs false
set_option maxRecDepth 100000
set_option maxHeartbeats 4000000
namespace Bk
def iD(op:Int)(σ:PSt)(c i:Nat)(l:List Int):Rs:=
 if op=46 then(if σ.inp= []then .error 17 else if l.getD i 0≠0 then .error 14 else .ok {σ with inp:=σ.inp.tail,cells:=σ.cells.set c (l.set i (σ.inp.headD 0))})
 else if op=47 then(if 4096<=σ.inp.length then .error 5 else .ok {σ with inp:=l.getD i 0::σ.inp,cells:=σ.cells.set c (l.set i 0)})
 else if op=48 then(if 4096<=σ.out.length then .error 5 else .ok {σ with out:=σ.out++ [l.getD i 0],cells:=σ.cells.set c (l.set i 0)})
 else(if σ.out= []then .error 17 else if l.getD i 0≠0 then .error 14 else .ok {σ with out:=σ.out.dropLast,cells:=σ.cells.set c (l.set i (σ.out.getLastD 0))})
end Bk
namespace Go.Proofs.YtakfdnnlhjhcfaaGreatDoor
open Go.RowKit Bk
section
variable{w:World}{B:Nat}{S:Sv}{σ:PSt}
theorem SOn.tp(h:SOn w B S σ):TpAt w B S.tb S.vi S.vo σ.inp σ.out:=
 ⟨h.tape,h.inp,h.out,fun e=>(by have:=h.rvi _ e;rw[h.rtb]at this;cases this),fun e=>(by have:=h.rvo _ e;rw[h.rtb]at this;cases this),fun k h1 h2=>by have a:=h.rvi k h1;have b:=h.rvo k h2;rw[a]at b;cases b⟩
theorem SOn.tpTo(h:SOn w B S σ){a b:List Int}{w1:World}{vi vo:Value}(ht:TpP w B S.tb S.vi S.vo a b w1 vi vo):(∃S',SOn w1 B S' {σ with inp:=a,out:=b}∧S.Ext S' w∧(S'.cb=S.cb∧S'.tb=S.tb)∧S'.iv=S.iv)∧Fr S.O w w1:=by
 have hF:Fr (fun k=>S.ro k=.tape∨S.ro k=.tin∨S.ro k=.tout) w w1:=ht.fr.mono fun k hk=>by
  rcases hk with hk|hk|hk
  ·exact .inl (by rw[hk];exact h.rtb)
  ·exact .inr (.inl (h.rvi k hk))
  ·exact .inr (.inr (h.rvo k hk))
 exact⟨h.tapeTo hF ht.at_.blk ht.at_.inp ht.at_.out (fun k hk=>(ht.hi k hk).imp (h.rvi k) id) (fun k hk=>(ht.ho k hk).imp (h.rvo k) id) ht.at_.ne,hF.mono fun k hk=>by show S.ro k≠ .none;rcases hk with h|h|h<;>rw[h]<;>simp⟩
theorem SOn.tpWrite(h:SOn w B S σ){a b:List Int}{w1:World}{vi vo:Value}(ht:TpP w B S.tb S.vi S.vo a b w1 vi vo){c i g cp:Nat}{l:List Int}(hc:σ.cells[c]?=some l)(he:S.iv c=.slice (some ⟨g,0,none⟩) l.length cp)(v:Int):
  (∃S',SOn (w1.setCell ⟨g,i,none⟩ (.int .i64 v)) B S' {σ with inp:=a,out:=b,cells:=σ.cells.set c (l.set i v)}∧S.Ext S' w)∧Fr S.O w (w1.setCell ⟨g,i,none⟩ (.int .i64 v)):=by
 obtain⟨⟨S',q1,q2,q3,q4⟩,hF⟩:=h.tpTo ht;obtain⟨S'',r1,r2,_⟩:=q1.write (i:=i) hc (by rw[q4];exact he) v;have hg:S.ro g=.items c:=(h.cells c l hc).ri g (by rw[he];rfl);exact⟨⟨S'',r1,q2.trans r2 hF.size⟩,hF.set (p:=⟨g,i,none⟩) (show S.ro g≠ .none by rw[hg];simp) _⟩
theorem SOn.tpCell(h:SOn w B S σ){a b:List Int}{w1:World}{vi vo:Value}(ht:TpP w B S.tb S.vi S.vo a b w1 vi vo){c g:Nat}(hg:S.ro g=.items c)(gR:g<w.heap.size)(i:Nat):w1.cell? ⟨g,i,none⟩=w.cell? ⟨g,i,none⟩∧w1.frozen? ⟨g,i,none⟩=w.frozen? ⟨g,i,none⟩∧Blk w1 S.st 123 #[S.bv,S.bc,.int .i64 σ.base.locals,S.cv,.pointer (some ⟨S.tb,0,none⟩)]:=by
 have hn:∀k r,S.ro k=r->r≠ .tape->r≠ .tin->r≠ .tout->¬(k=S.tb∨S.vi.ownBlock=some k∨S.vo.ownBlock=some k):=fun k r hr h1 h2 h3 ho=>by
  rcases ho with ho|ho|ho
  ·subst ho;rw[h.rtb]at hr;exact h1 hr.symm
  ·rw[h.rvi k ho]at hr;exact h2 hr.symm
  ·rw[h.rvo k ho]at hr;exact h3 hr.symm
 have hb:=ht.fr.block g gR (hn g _ hg (by simp) (by simp) (by simp));exact⟨World.cell?_of_block hb,World.frozen?_of_block hb,ht.fr.blk h.top (hn _ _ h.rst (by simp) (by simp) (by simp))⟩
theorem Eg(h:SOn w B S σ)(hB:B<=w.heap.size)(G0:σ.inp.length<=4096)(DL:σ.out.length<=4096){c i g cp:Nat}{l:List Int}(hc:σ.cells[c]?=some l)(he:S.iv c=.slice (some ⟨g,0,none⟩) l.length cp)(hi:i<l.length):Calls Tryz.prog 162 #[.pointer (some ⟨S.st,0,none⟩),.int .u8 46,.pointer (some ⟨g,i,none⟩)] w fun e w'=>RetS B S w (iD 46 σ c i l) e w':=by
 obtain⟨g',cp',e',gR,eH,jM,pJ⟩:=h.place hc hi;rw[he]at e';injection e' with e' _ _;injection e' with e';injection e' with e' _ _;subst e';have H:=aA h;have lJ:=aA h.top;have SR:=aA h.tp;obtain⟨q,hq⟩:∃q,iD 46 σ c i l=q:=⟨_,rfl⟩;rw[hq];have HQ:=aA hq;have EM:=aA pJ;obtain⟨y,hy⟩:∃y,l.getD i 0=y:=⟨_,rfl⟩;have HY:=aA hy;rw[hy]at jM;have E7:=aA jM;have W5:=aA he;clear h hq hy he;by_cases h0:σ.inp= []
 ·have HR:=aA (TH SR.out h0)
  obtain rfl:q=.error 17:=by rw[<-HQ.out];simp[iD,h0]
  obtain⟨st,tb,bv,bc,cv,vi,vo,fv,cb,iv,ro⟩:=S;dsimp only at *;obtain⟨z_,T_,F_⟩:=lJ.out.open_;clear h0;go_enter Tryz.func162,Tryz.ntmps162;go_wp2_with fail;refine HR.out.mono ?_;rintro e w2 ⟨rfl,hb⟩;have aP:=aA hb;clear hb T_ z_ F_ jM pJ;go_wp2_with fail;go_ret;exact⟨rfl,by decide,Fr.of aP.out⟩
 ·have HR:=aA (Dx SR.out (List.length_pos_iff.2 h0) G0)
  by_cases h1:y=0
  ·subst h1
   obtain rfl:q=.ok {σ with inp:=σ.inp.tail,cells:=σ.cells.set c (l.set i (σ.inp.headD 0))}:=by rw[<-HQ.out];unfold iD;rw[HY.out];simp[h0]
   have XX:=aA h0;generalize hv:σ.inp.headD 0=v at *;have jZ:Hid (∀w1 vi vo,TpP w B S.tb S.vi S.vo σ.inp.tail σ.out w1 vi vo->RetS B S w (.ok {σ with inp:=σ.inp.tail,cells:=σ.cells.set c (l.set i v)}) (.returned (.int .i64 0)) (w1.setCell ⟨g,i,none⟩ (.int .i64 v))):=aA fun w1 vi vo ht=>⟨rfl,H.out.tpWrite ht hc W5.out v⟩
   have iK:Hid (∀w1 vi vo,TpP w B S.tb S.vi S.vo σ.inp.tail σ.out w1 vi vo->w1.cell? ⟨g,i,none⟩=some (.int .i64 0)∧w1.frozen? ⟨g,i,none⟩=false):=aA fun w1 vi vo ht=>by obtain⟨a,b,_⟩:=H.out.tpCell ht eH gR i;exact⟨a.trans E7.out,b.trans EM.out⟩
   obtain⟨st,tb,bv,bc,cv,vi,vo,fv,cb,iv,ro⟩:=S;dsimp only at *;obtain⟨z_,T_,F_⟩:=lJ.out.open_;clear h0 hv HQ;go_enter Tryz.func162,Tryz.ntmps162;go_wp2_with fail;refine HR.out.mono ?_;rintro e w2 ⟨rfl,vi',vo',ht⟩;obtain⟨d0,g0⟩:=iK.out w2 vi' vo' ht;have HF:=aA (jZ.out w2 vi' vo' ht);clear ht T_ z_ F_ jM pJ HR lJ SR H;go_wp2_with fail;go_ret;exact HF.out
  ·obtain rfl:q=.error 14:=by rw[<-HQ.out];unfold iD;rw[HY.out];simp[h0,h1]
   have hyb:(y !=0)=true:=bne_iff_ne.2 h1;have XX:=aA h0;obtain⟨v,hv⟩:∃v,σ.inp.headD 0=v:=⟨_,rfl⟩;rw[hv]at HR;have Ir:Hid (∀w1 vi vo,TpP w B S.tb S.vi S.vo σ.inp.tail σ.out w1 vi vo->Fr S.O w w1∧w1.cell? ⟨g,i,none⟩=some (.int .i64 y)∧Blk w1 S.st 123 #[S.bv,S.bc,.int .i64 σ.base.locals,S.cv,.pointer (some ⟨S.tb,0,none⟩)]∧Calls Tryz.prog 176 #[.pointer (some ⟨S.tb,0,none⟩),.int .i64 v] w1 fun e w'=>e=.returned (.int .i64 0)∧Fr S.O w w'):=aA fun w1 vi vo ht=>by
    obtain⟨⟨S',q1,q2,q3,q4⟩,hF⟩:=H.out.tpTo ht;obtain⟨a,b,c⟩:=H.out.tpCell ht eH gR i;refine⟨hF,a.trans E7.out,c,?_⟩;have hT:=q1.tp;rw[q3.2]at hT;refine(I9 hT (fC hB hF.size) (by have:=List.length_pos_iff.2 XX.out;simp;omega) v).mono ?_;rintro e w' ⟨rfl,vi2,vo2,VX⟩;rw[<-q3.2]at VX;exact⟨rfl,q2.fr hF (q1.tpTo VX).2⟩
   obtain⟨st,tb,bv,bc,cv,vi,vo,fv,cb,iv,ro⟩:=S;dsimp only at *;obtain⟨z_,T_,F_⟩:=lJ.out.open_;clear h0 hv HQ;go_enter Tryz.func162,Tryz.ntmps162;go_wp2_with fail;refine HR.out.mono ?_;rintro e w2 ⟨rfl,vi',vo',ht⟩;obtain⟨hF,d0,hb2,hu⟩:=Ir.out w2 vi' vo' ht;have HU:=aA hu;clear ht T_ z_ F_ jM pJ HR lJ SR H hF hu;obtain⟨z_,T_,F_⟩:=hb2.open_;clear hb2;go_wp2_with fail;refine HU.out.mono ?_;rintro e w3 ⟨rfl,kE⟩;have jK:=aA kE;clear kE T_ z_ F_ d0;go_wp2_with fail;go_ret;exact⟨rfl,by decide,jK.out⟩
theorem FN(h:SOn w B S σ)(hB:B<=w.heap.size)(G0:σ.inp.length<=4096)(DL:σ.out.length<=4096){c i g cp:Nat}{l:List Int}(hc:σ.cells[c]?=some l)(he:S.iv c=.slice (some ⟨g,0,none⟩) l.length cp)(hi:i<l.length):Calls Tryz.prog 162 #[.pointer (some ⟨S.st,0,none⟩),.int .u8 49,.pointer (some ⟨g,i,none⟩)] w fun e w'=>RetS B S w (iD 49 σ c i l) e w':=by
 obtain⟨g',cp',e',gR,eH,jM,pJ⟩:=h.place hc hi;rw[he]at e';injection e' with e' _ _;injection e' with e';injection e' with e' _ _;subst e';have H:=aA h;have lJ:=aA h.top;have SR:=aA h.tp;obtain⟨q,hq⟩:∃q,iD 49 σ c i l=q:=⟨_,rfl⟩;rw[hq];have HQ:=aA hq;have EM:=aA pJ;obtain⟨y,hy⟩:∃y,l.getD i 0=y:=⟨_,rfl⟩;have HY:=aA hy;rw[hy]at jM;have E7:=aA jM;have W5:=aA he;clear h hq hy he;by_cases h0:σ.out= []
 ·have HR:=aA (Y8 SR.out h0)
  obtain rfl:q=.error 17:=by rw[<-HQ.out];simp[iD,h0]
  obtain⟨st,tb,bv,bc,cv,vi,vo,fv,cb,iv,ro⟩:=S;dsimp only at *;obtain⟨z_,T_,F_⟩:=lJ.out.open_;clear h0;go_enter Tryz.func162,Tryz.ntmps162;go_wp2_with fail;refine HR.out.mono ?_;rintro e w2 ⟨rfl,hb⟩;have aP:=aA hb;clear hb T_ z_ F_ jM pJ;go_wp2_with fail;go_ret;exact⟨rfl,by decide,Fr.of aP.out⟩
 ·have HR:=aA (FK SR.out (List.length_pos_iff.2 h0) DL)
  by_cases h1:y=0
  ·subst h1
   obtain rfl:q=.ok {σ with out:=σ.out.dropLast,cells:=σ.cells.set c (l.set i (σ.out.getLastD 0))}:=by rw[<-HQ.out];unfold iD;rw[HY.out];simp[h0]
   have XX:=aA h0;generalize hv:σ.out.getLastD 0=v at *;have jZ:Hid (∀w1 vi vo,TpP w B S.tb S.vi S.vo σ.inp σ.out.dropLast w1 vi vo->RetS B S w (.ok {σ with out:=σ.out.dropLast,cells:=σ.cells.set c (l.set i v)}) (.returned (.int .i64 0)) (w1.setCell ⟨g,i,none⟩ (.int .i64 v))):=aA fun w1 vi vo ht=>⟨rfl,H.out.tpWrite ht hc W5.out v⟩
   have iK:Hid (∀w1 vi vo,TpP w B S.tb S.vi S.vo σ.inp σ.out.dropLast w1 vi vo->w1.cell? ⟨g,i,none⟩=some (.int .i64 0)∧w1.frozen? ⟨g,i,none⟩=false):=aA fun w1 vi vo ht=>by obtain⟨a,b,_⟩:=H.out.tpCell ht eH gR i;exact⟨a.trans E7.out,b.trans EM.out⟩
   obtain⟨st,tb,bv,bc,cv,vi,vo,fv,cb,iv,ro⟩:=S;dsimp only at *;obtain⟨z_,T_,F_⟩:=lJ.out.open_;clear h0 hv HQ;go_enter Tryz.func162,Tryz.ntmps162;go_wp2_with fail;refine HR.out.mono ?_;rintro e w2 ⟨rfl,vi',vo',ht⟩;obtain⟨d0,g0⟩:=iK.out w2 vi' vo' ht;have HF:=aA (jZ.out w2 vi' vo' ht);clear ht T_ z_ F_ jM pJ HR lJ SR H;go_wp2_with fail;go_ret;exact HF.out
  ·obtain rfl:q=.error 14:=by rw[<-HQ.out];unfold iD;rw[HY.out];simp[h0,h1]
   have hyb:(y !=0)=true:=bne_iff_ne.2 h1;have XX:=aA h0;obtain⟨v,hv⟩:∃v,σ.out.getLastD 0=v:=⟨_,rfl⟩;rw[hv]at HR;have Ir:Hid (∀w1 vi vo,TpP w B S.tb S.vi S.vo σ.inp σ.out.dropLast w1 vi vo->Fr S.O w w1∧w1.cell? ⟨g,i,none⟩=some (.int .i64 y)∧Blk w1 S.st 123 #[S.bv,S.bc,.int .i64 σ.base.locals,S.cv,.pointer (some ⟨S.tb,0,none⟩)]∧Calls Tryz.prog 178 #[.pointer (some ⟨S.tb,0,none⟩),.int .i64 v] w1 fun e w'=>e=.returned (.int .i64 0)∧Fr S.O w w'):=aA fun w1 vi vo ht=>by
    obtain⟨⟨S',q1,q2,q3,q4⟩,hF⟩:=H.out.tpTo ht;obtain⟨a,b,c⟩:=H.out.tpCell ht eH gR i;refine⟨hF,a.trans E7.out,c,?_⟩;have hT:=q1.tp;rw[q3.2]at hT;refine(CU hT (fC hB hF.size) (by have:=List.length_pos_iff.2 XX.out;simp;omega) v).mono ?_;rintro e w' ⟨rfl,vi2,vo2,VX⟩;rw[<-q3.2]at VX;exact⟨rfl,q2.fr hF (q1.tpTo VX).2⟩
   obtain⟨st,tb,bv,bc,cv,vi,vo,fv,cb,iv,ro⟩:=S;dsimp only at *;obtain⟨z_,T_,F_⟩:=lJ.out.open_;clear h0 hv HQ;go_enter Tryz.func162,Tryz.ntmps162;go_wp2_with fail;refine HR.out.mono ?_;rintro e w2 ⟨rfl,vi',vo',ht⟩;obtain⟨hF,d0,hb2,hu⟩:=Ir.out w2 vi' vo' ht;have HU:=aA hu;clear ht T_ z_ F_ jM pJ HR lJ SR H hF hu;obtain⟨z_,T_,F_⟩:=hb2.open_;clear hb2;go_wp2_with fail;refine HU.out.mono ?_;rintro e w3 ⟨rfl,kE⟩;have jK:=aA kE;clear kE T_ z_ F_ d0;go_wp2_with fail;go_ret;exact⟨rfl,by decide,jK.out⟩
theorem LP(h:SOn w B S σ)(hB:B<=w.heap.size)(G0:σ.inp.length<=4096)(DL:σ.out.length<=4096){c i g cp:Nat}{l:List Int}(hc:σ.cells[c]?=some l)(he:S.iv c=.slice (some ⟨g,0,none⟩) l.length cp)(hi:i<l.length):Calls Tryz.prog 162 #[.pointer (some ⟨S.st,0,none⟩),.int .u8 47,.pointer (some ⟨g,i,none⟩)] w fun e w'=>RetS B S w (iD 47 σ c i l) e w':=by
 obtain⟨g',cp',e',gR,eH,jM,pJ⟩:=h.place hc hi;rw[he]at e';injection e' with e' _ _;injection e' with e';injection e' with e' _ _;subst e';have H:=aA h;have lJ:=aA h.top;obtain⟨q,hq⟩:∃q,iD 47 σ c i l=q:=⟨_,rfl⟩;rw[hq];have HQ:=aA hq;have EM:=aA pJ;obtain⟨y,hy⟩:∃y,l.getD i 0=y:=⟨_,rfl⟩;have HY:=aA hy;rw[hy]at jM;have E7:=aA jM;have W5:=aA he;have Br:=aA (fun W(hW:Below w.heap.size w W)=>(h.next hW).tp);clear h hq hy he;by_cases h0:4096<=σ.inp.length
 ·have HR:=aA (fun W hW=>FJ (Br.out W hW) h0 y)
  obtain rfl:q=.error 5:=by rw[<-HQ.out];unfold iD;simp[h0]
  obtain⟨st,tb,bv,bc,cv,vi,vo,fv,cb,iv,ro⟩:=S;dsimp only at *;obtain⟨z_,T_,F_⟩:=lJ.out.open_;clear h0;go_enter Tryz.func162,Tryz.ntmps162;go_wp2_with fail
  go_still_tail 7,(by kernel_rfl)
  change wpList _ _ _ _ _ w.drew;go_wp2_with fail;refine(HR.out _ (by go_grown)).mono ?_;rintro e w2 ⟨rfl,hb⟩;have aP:Hid (Below w.heap.size w w2):=aA (Below.next (by go_grown) hb);clear hb T_ z_ F_ jM pJ;go_wp2_with fail;go_ret;exact⟨rfl,by decide,Fr.of aP.out⟩
 ·have HR:=aA (fun W(hW:Below w.heap.size w W)=>I9 (Br.out W hW) (fC hB hW.size) (by omega) y)
  obtain rfl:q=.ok {σ with inp:=y::σ.inp,cells:=σ.cells.set c (l.set i 0)}:=by rw[<-HQ.out];unfold iD;rw[HY.out];simp[h0]
  have jZ:Hid (∀w1 vi vo,TpP w B S.tb S.vi S.vo (y::σ.inp) σ.out w1 vi vo->RetS B S w (.ok {σ with inp:=y::σ.inp,cells:=σ.cells.set c (l.set i 0)}) (.returned (.int .i64 0)) (w1.setCell ⟨g,i,none⟩ (.int .i64 0))):=aA fun w1 vi vo ht=>⟨rfl,H.out.tpWrite ht hc W5.out 0⟩
  have iK:Hid (∀w1 vi vo,TpP w B S.tb S.vi S.vo (y::σ.inp) σ.out w1 vi vo->w1.cell? ⟨g,i,none⟩=some (.int .i64 y)∧w1.frozen? ⟨g,i,none⟩=false):=aA fun w1 vi vo ht=>by obtain⟨a,b,_⟩:=H.out.tpCell ht eH gR i;exact⟨a.trans E7.out,b.trans EM.out⟩
  obtain⟨st,tb,bv,bc,cv,vi,vo,fv,cb,iv,ro⟩:=S;dsimp only at *;obtain⟨z_,T_,F_⟩:=lJ.out.open_;clear h0 HQ;go_enter Tryz.func162,Tryz.ntmps162;go_wp2_with fail
  go_still_tail 7,(by kernel_rfl)
  change wpList _ _ _ _ _ w.drew;go_wp2_with fail;refine(HR.out _ (by go_grown)).mono ?_;rintro e w2 ⟨rfl,vi',vo',Ry⟩;have ht:=TpP.pre (w:=w) (by go_grown) Ry;obtain⟨d0,g0⟩:=iK.out w2 vi' vo' ht;have HF:=aA (jZ.out w2 vi' vo' ht);clear ht Ry T_ z_ F_ jM pJ HR lJ Br H;go_wp2_with fail;go_ret;exact HF.out
theorem TW(h:SOn w B S σ)(hB:B<=w.heap.size)(G0:σ.inp.length<=4096)(DL:σ.out.length<=4096){c i g cp:Nat}{l:List Int}(hc:σ.cells[c]?=some l)(he:S.iv c=.slice (some ⟨g,0,none⟩) l.length cp)(hi:i<l.length):Calls Tryz.prog 162 #[.pointer (some ⟨S.st,0,none⟩),.int .u8 48,.pointer (some ⟨g,i,none⟩)] w fun e w'=>RetS B S w (iD 48 σ c i l) e w':=by
 obtain⟨g',cp',e',gR,eH,jM,pJ⟩:=h.place hc hi;rw[he]at e';injection e' with e' _ _;injection e' with e';injection e' with e' _ _;subst e';have H:=aA h;have lJ:=aA h.top;obtain⟨q,hq⟩:∃q,iD 48 σ c i l=q:=⟨_,rfl⟩;rw[hq];have HQ:=aA hq;have EM:=aA pJ;obtain⟨y,hy⟩:∃y,l.getD i 0=y:=⟨_,rfl⟩;have HY:=aA hy;rw[hy]at jM;have E7:=aA jM;have W5:=aA he;have Br:=aA (fun W(hW:Below w.heap.size w W)=>(h.next hW).tp);clear h hq hy he;by_cases h0:4096<=σ.out.length
 ·have HR:=aA (fun W hW=>LK (Br.out W hW) h0 y)
  obtain rfl:q=.error 5:=by rw[<-HQ.out];unfold iD;simp[h0]
  obtain⟨st,tb,bv,bc,cv,vi,vo,fv,cb,iv,ro⟩:=S;dsimp only at *;obtain⟨z_,T_,F_⟩:=lJ.out.open_;clear h0;go_enter Tryz.func162,Tryz.ntmps162;go_wp2_with fail
  go_still_tail 7,(by kernel_rfl)
  change wpList _ _ _ _ _ w.drew;go_wp2_with fail;refine(HR.out _ (by go_grown)).mono ?_;rintro e w2 ⟨rfl,hb⟩;have aP:Hid (Below w.heap.size w w2):=aA (Below.next (by go_grown) hb);clear hb T_ z_ F_ jM pJ;go_wp2_with fail;go_ret;exact⟨rfl,by decide,Fr.of aP.out⟩
 ·have HR:=aA (fun W(hW:Below w.heap.size w W)=>CU (Br.out W hW) (fC hB hW.size) (by omega) y)
  obtain rfl:q=.ok {σ with out:=σ.out++ [y],cells:=σ.cells.set c (l.set i 0)}:=by rw[<-HQ.out];unfold iD;rw[HY.out];simp[h0]
  have jZ:Hid (∀w1 vi vo,TpP w B S.tb S.vi S.vo σ.inp (σ.out++ [y]) w1 vi vo->RetS B S w (.ok {σ with out:=σ.out++ [y],cells:=σ.cells.set c (l.set i 0)}) (.returned (.int .i64 0)) (w1.setCell ⟨g,i,none⟩ (.int .i64 0))):=aA fun w1 vi vo ht=>⟨rfl,H.out.tpWrite ht hc W5.out 0⟩
  have iK:Hid (∀w1 vi vo,TpP w B S.tb S.vi S.vo σ.inp (σ.out++ [y]) w1 vi vo->w1.cell? ⟨g,i,none⟩=some (.int .i64 y)∧w1.frozen? ⟨g,i,none⟩=false):=aA fun w1 vi vo ht=>by obtain⟨a,b,_⟩:=H.out.tpCell ht eH gR i;exact⟨a.trans E7.out,b.trans EM.out⟩
  obtain⟨st,tb,bv,bc,cv,vi,vo,fv,cb,iv,ro⟩:=S;dsimp only at *;obtain⟨z_,T_,F_⟩:=lJ.out.open_;clear h0 HQ;go_enter Tryz.func162,Tryz.ntmps162;go_wp2_with fail
  go_still_tail 7,(by kernel_rfl)
  change wpList _ _ _ _ _ w.drew;go_wp2_with fail;refine(HR.out _ (by go_grown)).mono ?_;rintro e w2 ⟨rfl,vi',vo',Ry⟩;have ht:=TpP.pre (w:=w) (by go_grown) Ry;obtain⟨d0,g0⟩:=iK.out w2 vi' vo' ht;have HF:=aA (jZ.out w2 vi' vo' ht);clear ht Ry T_ z_ F_ jM pJ HR lJ Br H;go_wp2_with fail;go_ret;exact HF.out
end
end Go.Proofs.YtakfdnnlhjhcfaaGreatDoor
namespace Bk
open Go Go.RowKit
theorem kO{vars:List Vr}{p:Ex}(hp:p.isPl)(h:bN vars p=0):∃k,(k=1∨k=2)∧dT vars p.nam k=0:=by
 cases p with
 |var s=>exact⟨1,.inl rfl,h⟩
 |item s a=>
  refine⟨2,.inr rfl,?_⟩;unfold bN at h;by_cases h0:dT vars s 2=0
  ·exact h0
  ·rw[if_pos h0]at h;exact absurd h h0
 |num v=>exact hp.elim
 |top s=>exact hp.elim
 |size s=>exact hp.elim
 |un op a=>exact hp.elim
 |bin op a b=>exact hp.elim
structure Iu(σ:PSt)(kd:Nat->Int)(s:ByteArray)(k:Int)(j c:Nat)(l:List Int):Prop where
 find:bK s σ.cur.vars=some j
 idx:σ.cur.idx[j]?=some c
 cell:σ.cells[c]?=some l
 kd:kd c=k
 len:σ.len s=l.length
 read:∀i,σ.read s i=l.getD i 0
 write:∀i v,σ.write s i v={σ with cells:=σ.cells.set c (l.set i v)}
 put:∀l',σ.setCell s l'={σ with cells:=σ.cells.set c l'}
 look:σ.look s=some l
 ml:l.length<=1000
theorem PSt.Ok.pls{kd:Nat->Int}{m:Nat}{σ:PSt}(h:σ.Ok kd m){s:ByteArray}{k:Int}(hu:dT σ.cur.vars s k=0):∃j c l,Iu σ kd s k j c l:=by
 obtain⟨j,c,l,h1,h2,h3,h4,h5,h6⟩:=h.use hu;refine⟨j,c,l,h1,h2,h3,h4,by unfold PSt.len;rw[h6];rfl,fun i=>by unfold PSt.read;rw[h6];rfl,fun i v=>?_,fun l'=>by unfold PSt.setCell;rw[h5],h6,(h.one c l h3).2⟩;unfold PSt.write;rw[h5];simp[eX,h3]
theorem Kid.upS{w w':World}{B B' i:Nat}{x y:Nd}(h:Kid w B x i y)(hb:Below B w w')(hB:B<=B'):Kid w' B' x i y:=by
 obtain⟨g,o,h1,h2,h3⟩:=h.next hb;exact⟨g,o,h1,dX h2 hB,h3⟩
theorem EV.nam{w:World}{B:Nat}{nb:ByteArray->Bool}{p:Ex}{y:Nd}(h:EV w B nb p y)(hp:p.isPl):y.nm=p.nam:=by
 cases p with
 |var s=>exact h.2.2.1
 |item s a=>exact h.2.2.1
 |num v=>exact hp.elim
 |top s=>exact hp.elim
 |size s=>exact hp.elim
 |un op a=>exact hp.elim
 |bin op a b=>exact hp.elim
end Bk
namespace Go.Proofs.YtakfdnnlhjhcfaaGreatDoor
open Go.RowKit Bk
section
variable{w:World}{B d:Nat}{S:Sv}{σ:PSt}{kd:Nat->Int}{m:Nat}
theorem SOn.lkL(h:SOn w B S σ)(ho:σ.Ok kd m)(hm:m<=10000):SV w w.heap.size 158 (.pointer (some ⟨S.st,0,none⟩)) σ.look:=
 ⟨fun _ _=>rfl,fun s w' hb=>(J3 (h.next hb) ho hm s).mono fun e w'' h=>⟨h.1.x,by rw[h.2];exact aM _ _⟩,fun s l hl=>ho.lookLen hl⟩
theorem Kid.at2{x y:Nd}{i:Nat}(h:Kid w w.heap.size x i y):∃gk ok,x.A=some ⟨gk,ok,none⟩∧∀W,Below w.heap.size w W->W.cell? ⟨gk,ok+i*4,none⟩=some (.int .u8 y.k)∧W.cell? ⟨gk,ok+i*4+1,none⟩=some (.int .i64 y.num)∧W.cell? ⟨gk,ok+i*4+2,none⟩=some (.string y.nm)∧W.cell? ⟨gk,ok+i*4+3,none⟩=some (.slice y.A y.n y.cap):=by
 obtain⟨g,o,h1,h2,h3⟩:=h;refine⟨g,o,h1,fun W hW=>?_⟩;have q:∀(j:Nat)(v:Value),y.cells[j]?=some v->W.cell? ⟨g,o+i*4+j,none⟩=some v:=fun j v hv=>(hW.cell (p:=⟨g,o+i*4+j,none⟩) h2).trans (h3 j v hv)
 exact⟨q 0 _ rfl,q 1 _ rfl,q 2 _ rfl,q 3 _ rfl⟩
theorem Fs(h:SOn w B S σ)(ho:σ.Ok kd m)(hm:m<=10000){x y z:Nd}{op:Int}(hk:x.k=op)(fY:op=40∨op=41∨op=42)(hn:x.n=2)(cS:Kid w w.heap.size x 0 y)(sU:Kid w w.heap.size x 1 z){p e:Ex}(hp:p.isPl)(hy:EV w w.heap.size aS p y)(hz:EV w w.heap.size aS e z)(iW:KV w w.heap.size d y)(G1:KV w w.heap.size d z)(hf:bN σ.cur.vars p=0):
  Calls Tryz.prog 137 #[.pointer (some ⟨S.st,0,none⟩),.agg #[.int .u8 x.k,.int .i64 x.num,.string x.nm,.slice x.A x.n x.cap]] w fun en w'=>RetS B S w (eE σ p (aX σ.look e) fun i v=>.ok (σ.write p.nam i (IB op (σ.read p.nam i) v))) en w':=by
 obtain⟨pk,_,hu⟩:=kO hp hf;obtain⟨j,c,l,fM⟩:=ho.pls hu;have HL:=h.lkL ho hm;have nG:=aA (fun W hW=>mN (aH _) HL p y hy hp iW W hW);have IM:=aA (fun W hW=>zX (aH _) HL e z hz G1 W hW);have iK:=aA (fun W(hW:Below w.heap.size w W)=>rO (h.next hW) ho hm fM.find fM.idx);have Ni:=aA (fun a b(W:World)=>LJ op a b fY W);have mB:=hy.nam hp;have HNH:=aA mB;rw[<-mB]at iK;clear mB;unfold eE;rw[fM.len];obtain⟨ix,hix⟩:∃ix,c9 σ.look p=ix:=⟨_,rfl⟩;obtain⟨rx,hrx⟩:∃rx,aX σ.look e=rx:=⟨_,rfl⟩;rw[hix]at nG⊢;rw[hrx]at IM⊢;obtain⟨ri,re⟩:=ix;obtain⟨rv,rr⟩:=rx;dsimp only at *;obtain⟨q,hq⟩:∃q:Rs,(if re≠0 then .error re else if rr≠0 then .error rr else if ri<0∨(l.length:Int)<=ri then .error 12 else .ok (σ.write p.nam ri.toNat (IB op (σ.read p.nam ri.toNat) rv)))=q:=⟨_,rfl⟩;rw[hq];have HQ:=aA hq;have bM:=h.cells c l fM.cell;have W8:=aA fM;obtain⟨gk,ok,hA,F9⟩:=Kid.at2 cS;obtain⟨gk',ok',gF,rX⟩:=Kid.at2 sU;rw[hA]at gF;injection gF with gF;injection gF with e1 e2;subst e1;subst e2;rw[Nat.zero_mul,Nat.add_zero]at F9;rw[Nat.one_mul]at rX;have kC:=aA F9;have E5:=aA rX;have H:=aA h;have oL:=aA bM.blk;obtain⟨A1,cp1,e1⟩:=aI bM.own;rw[e1]at oL;have T9:=aA e1;have Ux:=fM.ml
 have CI:Hid (∀i,i<l.length->∃g cp,S.iv c=.slice (some ⟨g,0,none⟩) l.length cp∧g<w.heap.size∧S.ro g=.items c∧w.cell? ⟨g,i,none⟩=some (.int .i64 (l.getD i 0))∧w.frozen? ⟨g,i,none⟩=false):=aA fun i hi=>h.place fM.cell hi
 have JW:=aA bM.rb;clear hq fM bM HL h cS sU hy hz iW G1 ho hu hf e1 hix hrx F9 rX;obtain⟨k,num,nm,A,n,cap⟩:=x;obtain⟨yk,ynum,ynm,yA,yn,ycap⟩:=y;obtain⟨zk,znum,znm,zA,zn,zcap⟩:=z;dsimp only at *;subst hk;subst hA;have q0:(0:Int)<(n:Int):=by omega
 have q1:(1:Int)<(n:Int):=by omega
 have kk:(k==43)=false:=bqN.2 (by omega);have fN:=aA fY;obtain⟨b0,xA⟩:∃b0,(k==40)=b0:=⟨_,rfl⟩;obtain⟨b1,aG⟩:∃b1,(k==41)=b1:=⟨_,rfl⟩;obtain⟨b2,hb2⟩:∃b2,(k==42)=b2:=⟨_,rfl⟩;have sT:(b0=true)∨(b0=false∧b1=true)∨(b0=false∧b1=false∧b2=true):=by
  rcases fY with h|h|h<;>subst h<;>simp at xA aG hb2<;>subst xA<;>subst aG<;>subst hb2<;>simp
 clear fY hn;rcases sT with rfl|⟨rfl,rfl⟩|⟨rfl,rfl,rfl⟩
 all_goals
  by_cases h1:re=0;rotate_left
  ·have dG:(re !=0)=true:=bne_iff_ne.2 h1
   go_enter Tryz.func137,Tryz.ntmps137;go_upto_region 1 with fail;refine aB ?_;intro w1 aF;have aG:Below w.heap.size w w1:=(by rw[aF];go_grown);have K1:Blk w1 w.heap.size 26 #[.int .u8 k,.int .i64 num,.string nm,.slice (some ⟨gk,ok,none⟩) n cap]:=(by rw[aF];exact aQ);have a9:=aA K1;have aO:=aA aG;clear aF aG;obtain⟨aL,aJ,aK⟩:=K1.open_;clear K1;obtain⟨c0,c1,c2,c3⟩:=kC.out _ aO.out;go_wp2_with fail;refine(nG.out w1 aO.out).mono ?_;rintro en w2 ⟨rfl,hb2⟩;have aP:=aA (aO.out.next hb2);have bI:=aA (a9.out.next hb2);clear aJ aL aK hb2 c0 c1 c2 c3;obtain⟨aL,aJ,aK⟩:=bI.out.open_;go_wp2_with fail;go_ret;rw[<-HQ.out,if_pos h1];exact⟨rfl,h1,Fr.of aP.out⟩
  subst h1;by_cases h2:rr=0;rotate_left
  ·have dG:(rr !=0)=true:=bne_iff_ne.2 h2
   go_enter Tryz.func137,Tryz.ntmps137;go_upto_region 1 with fail;refine aB ?_;intro w1 aF;have aG:Below w.heap.size w w1:=(by rw[aF];go_grown);have K1:Blk w1 w.heap.size 26 #[.int .u8 k,.int .i64 num,.string nm,.slice (some ⟨gk,ok,none⟩) n cap]:=(by rw[aF];exact aQ);have a9:=aA K1;have aO:=aA aG;clear aF aG;obtain⟨aL,aJ,aK⟩:=K1.open_;clear K1;obtain⟨c0,c1,c2,c3⟩:=kC.out _ aO.out;go_wp2_with fail;refine(nG.out w1 aO.out).mono ?_;rintro en w2 ⟨rfl,hb2⟩;have aP:=aA (aO.out.next hb2);have bI:=aA (a9.out.next hb2);clear aJ aL aK hb2 c0 c1 c2 c3;obtain⟨aL,aJ,aK⟩:=bI.out.open_;obtain⟨c0,c1,c2,c3⟩:=E5.out _ aP.out;go_wp2_with fail;refine(IM.out w2 aP.out).mono ?_;rintro en w3 ⟨rfl,aT⟩;have bD:=aA (aP.out.next aT);have dD:=aA (bI.out.next aT);clear aJ aL aK aT;(try clear c0 c1 c2 c3);obtain⟨aL,aJ,aK⟩:=dD.out.open_;go_wp2_with fail;go_ret;rw[<-HQ.out];simp only[ne_eq,not_true_eq_false,if_false,h2,not_false_eq_true,if_true];exact⟨rfl,h2,Fr.of bD.out⟩
  subst h2;by_cases h3:ri<0∨(l.length:Int)<=ri
  ·have rL:Hid (q=.error 12):=aA (by rw[<-HQ.out];simp only[ne_eq,not_true_eq_false,if_false,if_pos h3])
   have xC:ri<0∨¬ri<0∧decide ((l.length:Int)<=ri)=true:=by
    rcases h3 with h|h
    ·exact .inl h
    ·by_cases h4:ri<0
     ·exact .inl h4
     ·exact .inr ⟨h4,by simpa using h⟩
   clear h3;go_enter Tryz.func137,Tryz.ntmps137;go_upto_region 1 with fail;refine aB ?_;intro w1 aF;have aG:Below w.heap.size w w1:=(by rw[aF];go_grown);have K1:Blk w1 w.heap.size 26 #[.int .u8 k,.int .i64 num,.string nm,.slice (some ⟨gk,ok,none⟩) n cap]:=(by rw[aF];exact aQ);have a9:=aA K1;have aO:=aA aG;clear aF aG;obtain⟨aL,aJ,aK⟩:=K1.open_;clear K1;obtain⟨c0,c1,c2,c3⟩:=kC.out _ aO.out;go_wp2_with fail;refine(nG.out w1 aO.out).mono ?_;rintro en w2 ⟨rfl,hb2⟩;have aP:=aA (aO.out.next hb2);have bI:=aA (a9.out.next hb2);clear aJ aL aK hb2 c0 c1 c2 c3;obtain⟨aL,aJ,aK⟩:=bI.out.open_;obtain⟨c0,c1,c2,c3⟩:=E5.out _ aP.out;go_wp2_with fail;refine(IM.out w2 aP.out).mono ?_;rintro en w3 ⟨rfl,aT⟩;have bD:=aA (aP.out.next aT);have dD:=aA (bI.out.next aT);clear aJ aL aK aT;(try clear c0 c1 c2 c3);obtain⟨aL,aJ,aK⟩:=dD.out.open_;obtain⟨c0,c1,c2,c3⟩:=kC.out _ bD.out;go_wp2_with fail;refine(iK.out w3 bD.out).mono ?_;rintro en w4 ⟨rfl,bV⟩;have dQ:=aA (bD.out.next bV);have eG:=aA (dD.out.next bV);clear aJ aL aK bV c0 c1 c2 c3;obtain⟨aL,aJ,aK⟩:=eG.out.open_;have e0:=(oL.out.next dQ.out).cell 0;rcases xC with xC|⟨xC,Up⟩
   all_goals
    go_wp2_with fail;go_ret;rw[rL.out];exact⟨rfl,by decide,Fr.of dQ.out⟩
  obtain⟨i,rfl⟩:∃i:Nat,ri=(i:Int):=⟨ri.toNat,by omega⟩;have hi:i<l.length:=by omega
  obtain⟨g,cp,he,gR,eH,jM,pJ⟩:=CI.out i hi;have SO:Hid (q=.ok {σ with cells:=σ.cells.set c (l.set i (IB k (l.getD i 0) rv))}):=aA (by rw[<-HQ.out];simp only[ne_eq,not_true_eq_false,if_false,if_neg h3,Int.toNat_natCast];rw[W8.out.write,W8.out.read]);have W5:=aA he;rw[T9.out]at he;injection he with he _ VS;subst he;subst VS;obtain⟨y0,hy0⟩:∃y0,l.getD i 0=y0:=⟨_,rfl⟩;rw[hy0]at jM SO;obtain⟨u0,hu0⟩:∃u0,IB k y0 rv=u0:=⟨_,rfl⟩;have HUU:Hid (∀W,Calls Tryz.prog 160 #[.int .u8 k,.int .i64 y0,.int .i64 rv] W fun e w'=>e=.returned (.tuple #[.int .i64 u0,.int .i64 0])∧W=w'):=aA fun W=>by have:=Ni.out y0 rv W;rwa [hu0]at this
  rw[hu0]at SO;have j0:(0:Int)<=(i:Int):=by omega
  have j1:(i:Int)<(l.length:Int):=by omega
  have j2:¬((i:Int)<0):=by omega
  have j3:¬((l.length:Int)<=(i:Int)):=by omega
  have E7:=aA jM;have EM:=aA pJ;clear jM pJ h3 hi hy0 hu0;go_enter Tryz.func137,Tryz.ntmps137;go_upto_region 1 with fail;refine aB ?_;intro w1 aF;have aG:Below w.heap.size w w1:=(by rw[aF];go_grown);have K1:Blk w1 w.heap.size 26 #[.int .u8 k,.int .i64 num,.string nm,.slice (some ⟨gk,ok,none⟩) n cap]:=(by rw[aF];exact aQ);have a9:=aA K1;have aO:=aA aG;clear aF aG;obtain⟨aL,aJ,aK⟩:=K1.open_;clear K1;obtain⟨c0,c1,c2,c3⟩:=kC.out _ aO.out;go_wp2_with fail;refine(nG.out w1 aO.out).mono ?_;rintro en w2 ⟨rfl,hb2⟩;have aP:=aA (aO.out.next hb2);have bI:=aA (a9.out.next hb2);clear aJ aL aK hb2 c0 c1 c2 c3;obtain⟨aL,aJ,aK⟩:=bI.out.open_;obtain⟨c0,c1,c2,c3⟩:=E5.out _ aP.out;go_wp2_with fail;refine(IM.out w2 aP.out).mono ?_;rintro en w3 ⟨rfl,aT⟩;have bD:=aA (aP.out.next aT);have dD:=aA (bI.out.next aT);clear aJ aL aK aT;(try clear c0 c1 c2 c3);obtain⟨aL,aJ,aK⟩:=dD.out.open_;obtain⟨c0,c1,c2,c3⟩:=kC.out _ bD.out;go_wp2_with fail;refine(iK.out w3 bD.out).mono ?_;rintro en w4 ⟨rfl,bV⟩;have dQ:=aA (bD.out.next bV);have eG:=aA (dD.out.next bV);clear aJ aL aK bV c0 c1 c2 c3;obtain⟨aL,aJ,aK⟩:=eG.out.open_;have e0:=(oL.out.next dQ.out).cell 0;have d0:=(dQ.out.cell (p:=⟨g,i,none⟩) gR).trans E7.out
  have f0:w4.frozen? ⟨g,i,none⟩=false:=(World.frozen?_of_block (a:=⟨g,i,none⟩) (dQ.out.block g gR)).trans EM.out;have XV:Hid (∀nn,(∃S',SOn ((w4.drewN nn).setCell ⟨g,i,none⟩ (.int .i64 u0)) B S' {σ with cells:=σ.cells.set c (l.set i u0)}∧S.Ext S' w)∧Fr S.O w ((w4.drewN nn).setCell ⟨g,i,none⟩ (.int .i64 u0))):=aA fun nn=>by
   have bV:Below w.heap.size w (w4.drewN nn):=Bk.drewN_ dQ.out nn;obtain⟨S',r1,r2,_⟩:=(H.out.next bV).write (i:=i) W8.out.cell W5.out u0;exact⟨⟨S',r1,r2.1,fun k hk=>r2.2 k (dX hk bV.size)⟩,(Fr.of bV).set (p:=⟨g,i,none⟩) (show S.ro g≠ .none by rw[eH];simp) _⟩
  go_wp2_with fail;go_quiet ((go_at_call 160;exact OY (HUU.out _)));go_wp2_with fail;go_ret;rw[SO.out];exact⟨rfl,(XV.out _).1,(XV.out _).2⟩
end
section
variable{w:World}{B d:Nat}{S:Sv}{σ:PSt}{kd:Nat->Int}{m:Nat}
theorem Ic{σ:PSt}{s s':ByteArray}{k k':Int}{j c j' c':Nat}{l l':List Int}(h:Iu σ kd s k j c l)(h':Iu σ kd s' k' j' c' l')(i i':Nat)(v v':Int):(σ.write s i v).write s' i' v'={σ with cells:=(σ.cells.set c (l.set i v)).set c' ((((σ.cells.set c (l.set i v))[c']?).getD []).set i' v')}:=by
 rw[h.write];unfold PSt.write;have:({σ with cells:=σ.cells.set c (l.set i v)}:PSt).at_ s'=some c':=by
  show(bK s' σ.cur.vars).map _=_;rw[h'.find];simp only[Option.map_some,eX];show some ((σ.cur.idx[j']?).getD 0)=_;rw[h'.idx];rfl
 rw[this];simp[eX]
theorem Fp(h:SOn w B S σ)(ho:σ.Ok kd m)(hm:m<=10000){x y z:Nd}(hk:x.k=43)(hn:x.n=2)(cS:Kid w w.heap.size x 0 y)(sU:Kid w w.heap.size x 1 z){p e:Ex}(hp:p.isPl)(Rh:e.isPl)(hy:EV w w.heap.size aS p y)(hz:EV w w.heap.size aS e z)(iW:KV w w.heap.size d y)(G1:KV w w.heap.size d z)(hf:bN σ.cur.vars p=0)(iJ:bN σ.cur.vars e=0):
  Calls Tryz.prog 137 #[.pointer (some ⟨S.st,0,none⟩),.agg #[.int .u8 x.k,.int .i64 x.num,.string x.nm,.slice x.A x.n x.cap]] w fun en w'=>RetS B S w (eE σ p (c9 σ.look e) fun i j=>if j<0∨(σ.len e.nam:Int)<=j then .error 12 else .ok ((σ.write p.nam i (σ.read e.nam j.toNat)).write e.nam j.toNat (σ.read p.nam i))) en w':=by
 obtain⟨pk,_,hu⟩:=kO hp hf;obtain⟨j,c,l,fM⟩:=ho.pls hu;obtain⟨pk',_,RB⟩:=kO Rh iJ;obtain⟨j',c',l',O9⟩:=ho.pls RB;have HL:=h.lkL ho hm;have nG:=aA (fun W hW=>mN (aH _) HL p y hy hp iW W hW);have IM:=aA (fun W hW=>mN (aH _) HL e z hz Rh G1 W hW);have iK:=aA (fun W(hW:Below w.heap.size w W)=>rO (h.next hW) ho hm fM.find fM.idx);have JH:=aA (fun W(hW:Below w.heap.size w W)=>rO (h.next hW) ho hm O9.find O9.idx);have mB:=hy.nam hp;have Me:=hz.nam Rh;rw[<-mB]at iK;rw[<-Me]at JH;clear mB Me;unfold eE;rw[fM.len,O9.len];obtain⟨ix,hix⟩:∃ix,c9 σ.look p=ix:=⟨_,rfl⟩;obtain⟨rx,hrx⟩:∃rx,c9 σ.look e=rx:=⟨_,rfl⟩;rw[hix]at nG⊢;rw[hrx]at IM⊢;obtain⟨ri,re⟩:=ix;obtain⟨rv,rr⟩:=rx;dsimp only at *;obtain⟨q,hq⟩:∃q:Rs,(if re≠0 then .error re else if rr≠0 then .error rr else if ri<0∨(l.length:Int)<=ri then .error 12 else if rv<0∨(l'.length:Int)<=rv then .error 12 else .ok ((σ.write p.nam ri.toNat (σ.read e.nam rv.toNat)).write e.nam rv.toNat (σ.read p.nam ri.toNat)))=q:=⟨_,rfl⟩;rw[hq];have HQ:=aA hq;have bM:=h.cells c l fM.cell;have Z8:=h.cells c' l' O9.cell;have W8:=aA fM;have SJ:=aA O9;obtain⟨gk,ok,hA,F9⟩:=Kid.at2 cS;obtain⟨gk',ok',gF,rX⟩:=Kid.at2 sU;rw[hA]at gF;injection gF with gF;injection gF with e1 e2;subst e1;subst e2
 rw[Nat.zero_mul,Nat.add_zero]at F9;rw[Nat.one_mul]at rX;have kC:=aA F9;have E5:=aA rX;have H:=aA h;have oL:=aA bM.blk;have Bh:=aA Z8.blk;obtain⟨A1,cp1,e1⟩:=aI bM.own;obtain⟨A2,cp2,e2⟩:=aI Z8.own;rw[e1]at oL;rw[e2]at Bh;have T9:=aA e1;have EI:=aA e2;have Ux:=fM.ml;have aA8:=O9.ml;have CI:Hid (∀i,i<l.length->∃g cp,S.iv c=.slice (some ⟨g,0,none⟩) l.length cp∧g<w.heap.size∧S.ro g=.items c∧w.cell? ⟨g,i,none⟩=some (.int .i64 (l.getD i 0))∧w.frozen? ⟨g,i,none⟩=false):=aA fun i hi=>h.place fM.cell hi
 have Yf:Hid (∀i,i<l'.length->∃g cp,S.iv c'=.slice (some ⟨g,0,none⟩) l'.length cp∧g<w.heap.size∧S.ro g=.items c'∧w.cell? ⟨g,i,none⟩=some (.int .i64 (l'.getD i 0))∧w.frozen? ⟨g,i,none⟩=false):=aA fun i hi=>h.place O9.cell hi
 clear hq fM bM O9 Z8 HL h cS sU hy hz iW G1 ho hu RB hf iJ e1 e2 hix hrx F9 rX;obtain⟨k,num,nm,A,n,cap⟩:=x;obtain⟨yk,ynum,ynm,yA,yn,ycap⟩:=y;obtain⟨zk,znum,znm,zA,zn,zcap⟩:=z;dsimp only at *;subst hA;have q0:(0:Int)<(n:Int):=by omega
 have q1:(1:Int)<(n:Int):=by omega
 have k3:(k==43)=true:=beq_iff_eq.2 hk;have k0:(k==40)=false:=bqN.2 (by omega);have k1:(k==41)=false:=bqN.2 (by omega);have k2:(k==42)=false:=bqN.2 (by omega);clear hk hn;by_cases h1:re=0;rotate_left
 ·have dG:(re !=0)=true:=bne_iff_ne.2 h1
  go_enter Tryz.func137,Tryz.ntmps137;go_upto_region 1 with fail;refine aB ?_;intro w1 aF;have aG:Below w.heap.size w w1:=(by rw[aF];go_grown);have K1:Blk w1 w.heap.size 26 #[.int .u8 k,.int .i64 num,.string nm,.slice (some ⟨gk,ok,none⟩) n cap]:=(by rw[aF];exact aQ);have a9:=aA K1;have aO:=aA aG;clear aF aG;obtain⟨aL,aJ,aK⟩:=K1.open_;clear K1;obtain⟨c0,c1,c2,c3⟩:=kC.out _ aO.out;go_wp2_with fail;refine(nG.out w1 aO.out).mono ?_;rintro en w2 ⟨rfl,hb2⟩;have aP:=aA (aO.out.next hb2);have bI:=aA (a9.out.next hb2);clear aJ aL aK hb2 c0 c1 c2 c3;obtain⟨aL,aJ,aK⟩:=bI.out.open_;go_wp2_with fail;go_ret;rw[<-HQ.out,if_pos h1];exact⟨rfl,h1,Fr.of aP.out⟩
 subst h1;by_cases h2:rr=0;rotate_left
 ·have dG:(rr !=0)=true:=bne_iff_ne.2 h2
  go_enter Tryz.func137,Tryz.ntmps137;go_upto_region 1 with fail;refine aB ?_;intro w1 aF;have aG:Below w.heap.size w w1:=(by rw[aF];go_grown);have K1:Blk w1 w.heap.size 26 #[.int .u8 k,.int .i64 num,.string nm,.slice (some ⟨gk,ok,none⟩) n cap]:=(by rw[aF];exact aQ);have a9:=aA K1;have aO:=aA aG;clear aF aG;obtain⟨aL,aJ,aK⟩:=K1.open_;clear K1;obtain⟨c0,c1,c2,c3⟩:=kC.out _ aO.out;go_wp2_with fail;refine(nG.out w1 aO.out).mono ?_;rintro en w2 ⟨rfl,hb2⟩;have aP:=aA (aO.out.next hb2);have bI:=aA (a9.out.next hb2);clear aJ aL aK hb2 c0 c1 c2 c3;obtain⟨aL,aJ,aK⟩:=bI.out.open_;obtain⟨c0,c1,c2,c3⟩:=E5.out _ aP.out;go_wp2_with fail;refine(IM.out w2 aP.out).mono ?_;rintro en w3 ⟨rfl,aT⟩;have bD:=aA (aP.out.next aT);have dD:=aA (bI.out.next aT);clear aJ aL aK aT;(try clear c0 c1 c2 c3);obtain⟨aL,aJ,aK⟩:=dD.out.open_;go_wp2_with fail;go_ret;rw[<-HQ.out];simp only[ne_eq,not_true_eq_false,if_false,h2,not_false_eq_true,if_true];exact⟨rfl,h2,Fr.of bD.out⟩
 subst h2;by_cases h3:ri<0∨(l.length:Int)<=ri
 ·have rL:Hid (q=.error 12):=aA (by rw[<-HQ.out];simp only[ne_eq,not_true_eq_false,if_false,if_pos h3])
  have xC:ri<0∨¬ri<0∧decide ((l.length:Int)<=ri)=true:=by
   rcases h3 with h|h
   ·exact .inl h
   ·by_cases h4:ri<0
    ·exact .inl h4
    ·exact .inr ⟨h4,by simpa using h⟩
  clear h3;go_enter Tryz.func137,Tryz.ntmps137;go_upto_region 1 with fail;refine aB ?_;intro w1 aF;have aG:Below w.heap.size w w1:=(by rw[aF];go_grown);have K1:Blk w1 w.heap.size 26 #[.int .u8 k,.int .i64 num,.string nm,.slice (some ⟨gk,ok,none⟩) n cap]:=(by rw[aF];exact aQ);have a9:=aA K1;have aO:=aA aG;clear aF aG;obtain⟨aL,aJ,aK⟩:=K1.open_;clear K1;obtain⟨c0,c1,c2,c3⟩:=kC.out _ aO.out;go_wp2_with fail;refine(nG.out w1 aO.out).mono ?_;rintro en w2 ⟨rfl,hb2⟩;have aP:=aA (aO.out.next hb2);have bI:=aA (a9.out.next hb2);clear aJ aL aK hb2 c0 c1 c2 c3;obtain⟨aL,aJ,aK⟩:=bI.out.open_;obtain⟨c0,c1,c2,c3⟩:=E5.out _ aP.out;go_wp2_with fail;refine(IM.out w2 aP.out).mono ?_;rintro en w3 ⟨rfl,aT⟩;have bD:=aA (aP.out.next aT);have dD:=aA (bI.out.next aT);clear aJ aL aK aT;(try clear c0 c1 c2 c3);obtain⟨aL,aJ,aK⟩:=dD.out.open_;obtain⟨c0,c1,c2,c3⟩:=kC.out _ bD.out;go_wp2_with fail;refine(iK.out w3 bD.out).mono ?_;rintro en w4 ⟨rfl,bV⟩;have dQ:=aA (bD.out.next bV);have eG:=aA (dD.out.next bV);clear aJ aL aK bV c0 c1 c2 c3;obtain⟨aL,aJ,aK⟩:=eG.out.open_;have e0:=(oL.out.next dQ.out).cell 0;rcases xC with xC|⟨xC,Up⟩
  all_goals
   go_wp2_with fail;go_ret;rw[rL.out];exact⟨rfl,by decide,Fr.of dQ.out⟩
 obtain⟨i,rfl⟩:∃i:Nat,ri=(i:Int):=⟨ri.toNat,by omega⟩;have hi:i<l.length:=by omega
 obtain⟨g,cp,he,gR,eH,jM,pJ⟩:=CI.out i hi;have W5:=aA he;rw[T9.out]at he;injection he with he _ VS;subst he;subst VS;have j0:(0:Int)<=(i:Int):=by omega
 have j1:(i:Int)<(l.length:Int):=by omega
 have j2:¬((i:Int)<0):=by omega
 have j3:¬((l.length:Int)<=(i:Int)):=by omega
 have E7:=aA jM;have EM:=aA pJ;have HI:=aA hi;have Il:=aA h3;clear jM pJ h3 hi;by_cases h4:rv<0∨(l'.length:Int)<=rv
 ·have rL:Hid (q=.error 12):=aA (by rw[<-HQ.out];simp only[ne_eq,not_true_eq_false,if_false,if_neg Il.out,if_pos h4])
  have xC:rv<0∨¬rv<0∧decide ((l'.length:Int)<=rv)=true:=by
   rcases h4 with h|h
   ·exact .inl h
   ·by_cases h5:rv<0
    ·exact .inl h5
    ·exact .inr ⟨h5,by simpa using h⟩
  clear h4;go_enter Tryz.func137,Tryz.ntmps137;go_upto_region 1 with fail;refine aB ?_;intro w1 aF;have aG:Below w.heap.size w w1:=(by rw[aF];go_grown);have K1:Blk w1 w.heap.size 26 #[.int .u8 k,.int .i64 num,.string nm,.slice (some ⟨gk,ok,none⟩) n cap]:=(by rw[aF];exact aQ);have a9:=aA K1;have aO:=aA aG;clear aF aG;obtain⟨aL,aJ,aK⟩:=K1.open_;clear K1;obtain⟨c0,c1,c2,c3⟩:=kC.out _ aO.out;go_wp2_with fail;refine(nG.out w1 aO.out).mono ?_;rintro en w2 ⟨rfl,hb2⟩;have aP:=aA (aO.out.next hb2);have bI:=aA (a9.out.next hb2);clear aJ aL aK hb2 c0 c1 c2 c3;obtain⟨aL,aJ,aK⟩:=bI.out.open_;obtain⟨c0,c1,c2,c3⟩:=E5.out _ aP.out;go_wp2_with fail;refine(IM.out w2 aP.out).mono ?_;rintro en w3 ⟨rfl,aT⟩;have bD:=aA (aP.out.next aT);have dD:=aA (bI.out.next aT);clear aJ aL aK aT;(try clear c0 c1 c2 c3);obtain⟨aL,aJ,aK⟩:=dD.out.open_;obtain⟨c0,c1,c2,c3⟩:=kC.out _ bD.out;go_wp2_with fail;refine(iK.out w3 bD.out).mono ?_;rintro en w4 ⟨rfl,bV⟩;have dQ:=aA (bD.out.next bV);have eG:=aA (dD.out.next bV);clear aJ aL aK bV c0 c1 c2 c3;obtain⟨aL,aJ,aK⟩:=eG.out.open_;have e0:=(oL.out.next dQ.out).cell 0;obtain⟨c0,c1,c2,c3⟩:=E5.out _ dQ.out;go_wp2_with fail;refine(JH.out w4 dQ.out).mono ?_
  rintro en w5 ⟨rfl,cW⟩;have gL:=aA (dQ.out.next cW);have lX:=aA (eG.out.next cW);clear aJ aL aK cW c0 c1 c2 c3 e0;obtain⟨aL,aJ,aK⟩:=lX.out.open_;have e0:=(Bh.out.next gL.out).cell 0;rcases xC with xC|⟨xC,Up⟩
  all_goals
   go_wp2_with fail;go_ret;rw[rL.out];exact⟨rfl,by decide,Fr.of gL.out⟩
 obtain⟨i',rfl⟩:∃i':Nat,rv=(i':Int):=⟨rv.toNat,by omega⟩;have U7:i'<l'.length:=by omega
 obtain⟨g',cp',he',Ql,aAs,Qj,Qk⟩:=Yf.out i' U7;have Wq:=aA he';rw[EI.out]at he';injection he' with he' _ aAl;subst he';subst aAl;have p0:(0:Int)<=(i':Int):=by omega
 have p1:(i':Int)<(l'.length:Int):=by omega
 have p2:¬((i':Int)<0):=by omega
 have p3:¬((l'.length:Int)<=(i':Int)):=by omega
 have Ll:=aA Qj;have Wp:=aA Qk;have Tn:=aA U7;obtain⟨a,ha⟩:∃a,l.getD i 0=a:=⟨_,rfl⟩;obtain⟨b,hb⟩:∃b,l'.getD i' 0=b:=⟨_,rfl⟩;rw[ha]at E7;rw[hb]at Ll;have SO:Hid (q=.ok {σ with cells:=(σ.cells.set c (l.set i b)).set c' ((((σ.cells.set c (l.set i b))[c']?).getD []).set i' a)}):=aA (by rw[<-HQ.out];simp only[ne_eq,not_true_eq_false,if_false,if_neg Il.out,if_neg h4,Int.toNat_natCast];rw[W8.out.read,SJ.out.read,ha,hb,Ic W8.out SJ.out]);have jZ:Hid (∀W,Below w.heap.size w W->(∃S',SOn ((W.setCell ⟨g,i,none⟩ (.int .i64 b)).setCell ⟨g',i',none⟩ (.int .i64 a)) B S' {σ with cells:=(σ.cells.set c (l.set i b)).set c' ((((σ.cells.set c (l.set i b))[c']?).getD []).set i' a)}∧S.Ext S' w)∧Fr S.O w ((W.setCell ⟨g,i,none⟩ (.int .i64 b)).setCell ⟨g',i',none⟩ (.int .i64 a))):=aA fun W hW=>by
  obtain⟨S',r1,r2,r3,r4⟩:=(H.out.next hW).write (i:=i) W8.out.cell W5.out b;obtain⟨l2,hl2,hlen⟩:∃l2,(σ.cells.set c (l.set i b))[c']?=some l2∧l2.length=l'.length:=by
   by_cases Z7:c'=c
   ·subst Z7
    have hll:l'=l:=by have:=W8.out.cell;rw[SJ.out.cell]at this;injection this
    exact⟨_,List.getElem?_set_self (lgS.1 W8.out.cell).1,by simp[hll]⟩
   ·exact⟨_,(List.getElem?_set_ne (fun e=>Z7 e.symm)).trans SJ.out.cell,rfl⟩
  rw[hl2];obtain⟨S'',s1,s2,_⟩:=r1.write (i:=i') (c:=c') (l:=l2) (g:=g') (cp:=cp2) (show(σ.cells.set c (l.set i b))[c']?=some l2 from hl2) (by rw[r4,Wq.out,hlen]) a;have rU:Fr S.O w (W.setCell ⟨g,i,none⟩ (.int .i64 b)):=(Fr.of hW).set (p:=⟨g,i,none⟩) (show S.ro g≠ .none by rw[eH];simp) _;exact⟨⟨S'',s1,s2.1.trans r2.1,fun k hk=>(s2.2 k (dX hk rU.size)).trans (r2.2 k (dX hk hW.size))⟩,rU.set (p:=⟨g',i',none⟩) (show S.ro g'≠ .none by rw[aAs];simp) _⟩
 clear Qj Qk h4 U7 ha hb;go_enter Tryz.func137,Tryz.ntmps137;go_upto_region 1 with fail;refine aB ?_;intro w1 aF;have aG:Below w.heap.size w w1:=(by rw[aF];go_grown);have K1:Blk w1 w.heap.size 26 #[.int .u8 k,.int .i64 num,.string nm,.slice (some ⟨gk,ok,none⟩) n cap]:=(by rw[aF];exact aQ);have a9:=aA K1;have aO:=aA aG;clear aF aG;obtain⟨aL,aJ,aK⟩:=K1.open_;clear K1;obtain⟨c0,c1,c2,c3⟩:=kC.out _ aO.out;go_wp2_with fail;refine(nG.out w1 aO.out).mono ?_;rintro en w2 ⟨rfl,hb2⟩;have aP:=aA (aO.out.next hb2);have bI:=aA (a9.out.next hb2);clear aJ aL aK hb2 c0 c1 c2 c3;obtain⟨aL,aJ,aK⟩:=bI.out.open_;obtain⟨c0,c1,c2,c3⟩:=E5.out _ aP.out;go_wp2_with fail;refine(IM.out w2 aP.out).mono ?_;rintro en w3 ⟨rfl,aT⟩;have bD:=aA (aP.out.next aT);have dD:=aA (bI.out.next aT);clear aJ aL aK aT;(try clear c0 c1 c2 c3);obtain⟨aL,aJ,aK⟩:=dD.out.open_;obtain⟨c0,c1,c2,c3⟩:=kC.out _ bD.out;go_wp2_with fail;refine(iK.out w3 bD.out).mono ?_;rintro en w4 ⟨rfl,bV⟩;have dQ:=aA (bD.out.next bV);have eG:=aA (dD.out.next bV);clear aJ aL aK bV c0 c1 c2 c3;obtain⟨aL,aJ,aK⟩:=eG.out.open_;have e0:=(oL.out.next dQ.out).cell 0;obtain⟨c0,c1,c2,c3⟩:=E5.out _ dQ.out;go_wp2_with fail;refine(JH.out w4 dQ.out).mono ?_
 rintro en w5 ⟨rfl,cW⟩;have gL:=aA (dQ.out.next cW);have lX:=aA (eG.out.next cW);clear aJ aL aK cW c0 c1 c2 c3 e0;obtain⟨aL,aJ,aK⟩:=lX.out.open_;have e0:=(Bh.out.next gL.out).cell 0;have d1:=(gL.out.cell (p:=⟨g,i,none⟩) gR).trans E7.out;have f1:w5.frozen? ⟨g,i,none⟩=false:=(World.frozen?_of_block (a:=⟨g,i,none⟩) (gL.out.block g gR)).trans EM.out;have d2:=(gL.out.cell (p:=⟨g',i',none⟩) Ql).trans Ll.out;have f2:w5.frozen? ⟨g',i',none⟩=false:=(World.frozen?_of_block (a:=⟨g',i',none⟩) (gL.out.block g' Ql)).trans Wp.out;obtain⟨vz,G1⟩:=cell?_setCell_some (w:=w5) (p:=⟨g,i,none⟩) (x:=.int .i64 b) (q:=⟨g',i',none⟩) (v:=.int .i64 b) d2;go_wp2_with fail;go_region;go_wp2_with fail;go_ret;rw[SO.out];have wW:=jZ.out w5.drew gL.out.drew;exact⟨rfl,wW.1,wW.2⟩
end
end Go.Proofs.YtakfdnnlhjhcfaaGreatDoor
