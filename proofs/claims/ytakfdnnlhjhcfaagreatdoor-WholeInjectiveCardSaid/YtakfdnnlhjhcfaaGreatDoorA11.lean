/- Part of the proof. -/
import Derived.Test.YtakfdnnlhjhcfaaGreatDoorA10
set_option linter.unusedVariables false
set_option linter.unusedSimpArgs false
set_option maxRecDepth 100000
set_option maxHeartbeats 4000000
namespace Bk
open Go Go.RowKit
def lC(k:Int)(lk:Option (List Int))(ra:Int×Int):Int×Int:=match lk with
 |none=>(0,6)
 |some l=>if k=2 then(if l.length=1 then(l.getD 0 0,0)else(0,7))else if k=4 then(if l.length=0 then(0,13)else(l.getLastD 0,0))else if k=5 then(l.length,0)
  else if ra.2≠0 then(0,ra.2)else if ra.1<0∨(l.length:Int)<=ra.1 then(0,12)else(l.getD ra.1.toNat 0,0)
theorem Sl.read{w:World}{D:Nat->Prop}{v:Value}{n:Nat}{l:List Int}(h:Sl w D 1 v n (aC l)):∃A cap,v=.slice A n cap∧l.length=n∧n<=cap∧(0<n->∃b off,A=some ⟨b,off,none⟩∧D b∧∀i,i<n->w.cell? ⟨b,off+i,none⟩=some (.int .i64 (l.getD i 0))):=by
 obtain⟨A,cap,rfl,f9,hA,hR⟩:=h;have hl:l.length=n:=by have:=hR.1;simpa[aC]using this
 refine⟨A,cap,rfl,hl,f9,fun h0=>?_⟩;obtain⟨b,off,e,hD,hc⟩:=hR.2 h0;refine⟨b,off,e,hD,fun i hi=>hc i _ ?_⟩;rw[eJ _ _ (by omega)]
end Bk
namespace Go.Proofs.YtakfdnnlhjhcfaaGreatDoor
open Go.RowKit Bk
theorem M4(fn:Fn)(first cap:Array Value)(w:World):(binOp BinOp.eql 209 (.func fn first cap) .nilFunc).run Tryz.prog w=.ok (.bool false) w:=by
 have h:∀d,(Op.equalIn (d+1) 209 (.func fn first cap) .nilFunc).run Tryz.prog w=.ok false w:=by
  intro d;simp[Op.equalIn,run_underlying Tryz.underlying209]
 simp[binOp,Op.equal,show Op.maxDepth=9999+1 from rfl,h]
theorem CT(op x:Int)(fY:op=6∨op=7)(w:World):
  Calls Tryz.prog 189 #[.int .u8 op,.int .i64 x] w fun e w'=>e=.returned (.tuple #[.int .i64 (if op=6 then Go.RowKit.wrap64 (-x)else if x=0 then 1 else 0),.int .i64 0])∧w=w':=by
 rcases fY with rfl|rfl
 ·go_enter Tryz.func189,Tryz.ntmps189
  go_wp2_with fail;refine bodyPost_ret_by (results_tmp2 rfl _ _ _) rfl ?_;exact⟨rfl,rfl⟩
 ·go_enter Tryz.func189,Tryz.ntmps189
  go_wp2_with fail;refine(fO _ _).mono ?_;rintro en w2 ⟨rfl,rfl⟩;go_wp2_with fail
  all_goals (refine bodyPost_ret_by (results_tmp2 rfl _ _ _) rfl ?_;first|exact⟨rfl,rfl⟩|simp_all[Array.getD])
def uJ(w:World)(B:Nat)(g:FuncId)(p:Value)(x:Nd)(r:Int×Int):Prop:=∀w',Below B w w'->Calls Tryz.prog 174 #[.agg #[.int .u8 x.k,.int .i64 x.num,.string x.nm,.slice x.A x.n x.cap],(.func (.func g) #[p] #[])] w' fun e w''=>e=.returned (.tuple #[.int .i64 r.1,.int .i64 r.2])∧Below w'.heap.size w' w''
structure SV(w:World)(B:Nat)(g:FuncId)(p:Value)(look:ByteArray->Option (List Int)):Prop where
 eg:∀args W,(callFunc g args).run Tryz.prog W=.ok (.enter g args) W
 get:∀s w',Below B w w'->Calls Tryz.prog g #[p,.string s] w' fun e w''=>KC w'' (look s) e∧Below w'.heap.size w' w''
 len:∀s l,look s=some l->l.length<=1000
section
variable{w:World}{B:Nat}(bG:B<=w.heap.size){g:FuncId}{p:Value}{look:ByteArray->Option (List Int)}(hL:SV w B g p look)
include bG hL
theorem B7(x:Nd)(hk:x.k=2∨x.k=3∨x.k=4∨x.k=5){ra:Int×Int}(hit:x.k=3->x.n=1∧∃y,Kid w B x 0 y∧uJ w B g p y ra)(w':World)(hb:Below B w w'):
  Calls Tryz.prog 188 #[.agg #[.int .u8 x.k,.int .i64 x.num,.string x.nm,.slice x.A x.n x.cap],(.func (.func g) #[p] #[])] w' fun e w''=>e=.returned (.tuple #[.int .i64 (lC x.k (look x.nm) ra).1,.int .i64 (lC x.k (look x.nm) ra).2])∧Below w'.heap.size w' w'':=by
 have eg:=hL.eg;have HG:=aA (fun W hW=>hL.get x.nm W hW);have Xm:=aA (hL.len x.nm);have HIT:=aA hit;generalize look x.nm=lk at *;obtain⟨r,hr⟩:∃r,lC x.k lk ra=r:=⟨_,rfl⟩;have HR:=aA hr;rw[hr];clear hL hit hr;obtain⟨k,num,nm,A,n,cap⟩:=x;dsimp only at *;go_enter Tryz.func188,Tryz.ntmps188;have bC:B<=w'.heap.size:=(by have:=hb.size;omega);have HB:=aA hb;clear hb;go_upto_region 1 with fail;refine aB ?_;intro w1 aF;have aG:Below w'.heap.size w' w1:=(by rw[aF];go_grown);have K1:Blk w1 w'.heap.size 26 #[.int .u8 k,.int .i64 num,.string nm,.slice A n cap]:=(by rw[aF];exact aQ);have a9:=aA K1;have aO:=aA aG;have pU:=aA (HB.out.trans (aG.mono bC));clear aF aG;obtain⟨aL,aJ,aK⟩:=K1.open_;clear K1;go_wp2_with fail;refine(HG.out w1 pU.out).mono ?_;rintro en w2 ⟨he,hb2⟩;have aP:=aA (aO.out.next hb2);have F3:=aA (HB.out.trans ((aO.out.next hb2).mono bC));have K2:=a9.out.next hb2;clear aJ aL aK hb2;have bI:=aA K2;obtain⟨aL,aJ,aK⟩:=K2.open_;clear K2;cases lk with
 |none=>
  obtain⟨A',n',c',rfl⟩:=he;obtain rfl:r=(0,6):=by rw[<-HR.out];rfl
  go_wp2_with fail;refine bodyPost_ret_by (results_tmp2 rfl _ _ _) rfl ?_;exact⟨rfl,aP.out⟩
 |some l=>
  obtain⟨v,rfl,hs⟩:=he;have QY:=Xm.out l rfl;obtain⟨A',cap',rfl,_,_,Jl⟩:=Sl.read hs;have Mn:=aA Jl;clear hs Jl;rcases hk with rfl|rfl|rfl|rfl
  ·by_cases h1:l.length=1
   ·obtain⟨b,off,rfl,_,hc⟩:=Mn.out (by omega)
    have c0:=hc 0 (by omega);rw[Nat.add_zero]at c0;obtain rfl:r=(l.getD 0 0,0):=by rw[<-HR.out];simp[lC,h1]
    have dG:((l.length:Int) !=1)=false:=bne_eq_false_iff_eq.2 (by omega);have iL:=aA h1;have q0:(0:Int)<(l.length:Int):=by omega
    clear h1 hc;go_wp2_with fail;refine bodyPost_ret_by (results_tmp2 rfl _ _ _) rfl ?_;exact⟨rfl,aP.out⟩
   ·obtain rfl:r=(0,7):=by rw[<-HR.out];simp[lC,h1]
    have dG:((l.length:Int) !=1)=true:=bne_iff_ne.2 (by omega);go_wp2_with fail;refine bodyPost_ret_by (results_tmp2 rfl _ _ _) rfl ?_;exact⟨rfl,aP.out⟩
  ·obtain⟨rfl,y,cS,hv⟩:=HIT.out rfl
   obtain⟨gk,ok,B8,Us,c0,c1,c2,c3⟩:=cS.cells F3.out;have HV:=aA hv;rw[Nat.zero_mul,Nat.add_zero]at c0 c1 c2 c3;dsimp only at B8;subst B8;clear cS hv;go_wp2_with fail;refine(HV.out w2 F3.out).mono ?_;rintro en w3 ⟨rfl,aT⟩;have bD:=aA (aP.out.next aT);have F6:=aA aT;clear aJ aL aK aT c0 c1 c2 c3;obtain⟨rv,re⟩:=ra;dsimp only at *;by_cases h1:re=0
   ·subst h1
    by_cases h2:rv<0
    ·obtain rfl:r=(0,12):=by rw[<-HR.out];simp[lC,h2]
     go_wp2_with fail;refine bodyPost_ret_by (results_tmp2 rfl _ _ _) rfl ?_;exact⟨rfl,bD.out⟩
    ·by_cases h3:(l.length:Int)<=rv
     ·obtain rfl:r=(0,12):=by rw[<-HR.out];simp[lC,h3]
      go_wp2_with fail;refine bodyPost_ret_by (results_tmp2 rfl _ _ _) rfl ?_;exact⟨rfl,bD.out⟩
     ·obtain⟨i,rfl⟩:∃i:Nat,rv=(i:Int):=⟨rv.toNat,by omega⟩
      obtain⟨b,off,rfl,f8,hc⟩:=Mn.out (by omega);have d0:=(F6.out.cell (p:=⟨b,off+i,none⟩) f8).trans (hc i (by omega));obtain rfl:r=(l.getD i 0,0):=by rw[<-HR.out];simp[lC,h2,h3]
      have j0:(0:Int)<=(i:Int):=by omega
      have j1:(i:Int)<(l.length:Int):=by omega
      have j2:¬((i:Int)<0):=by omega
      have j3:¬((l.length:Int)<=(i:Int)):=by omega
      clear h2 h3 hc;go_wp2_with fail;refine bodyPost_ret_by (results_tmp2 rfl _ _ _) rfl ?_;exact⟨rfl,bD.out⟩
   ·have yI:(re !=0)=true:=by simpa using h1
    obtain rfl:r=(0,re):=by rw[<-HR.out];simp[lC,h1]
    go_wp2_with fail;refine bodyPost_ret_by (results_tmp2 rfl _ _ _) rfl ?_;exact⟨rfl,bD.out⟩
  ·by_cases h1:l.length=0
   ·have dG:((l.length:Int)==0)=true:=beq_iff_eq.2 (by omega)
    obtain rfl:r=(0,13):=by rw[<-HR.out];simp[lC,h1]
    go_wp2_with fail;refine bodyPost_ret_by (results_tmp2 rfl _ _ _) rfl ?_;exact⟨rfl,aP.out⟩
   ·have dG:((l.length:Int)==0)=false:=bqN.2 (by omega)
    obtain⟨b,off,rfl,_,hc⟩:=Mn.out (by omega);have c0:=hc (l.length-1) (by omega);have YJ:Hid (r=(l.getD (l.length-1) 0,0)):=aA (by rw[<-HR.out];simp[lC,h1,List.getLastD_eq_getLast?,List.getLast?_eq_getElem?,eX]);obtain⟨m,hm⟩:∃m,l.length=m+1:=⟨l.length-1,by omega⟩;have HM:=aA hm;rw[hm]at YJ QY dG c0⊢;rw[Nat.add_sub_cancel]at c0 YJ;obtain rfl:=YJ.out;have hw:wrap64 (m:Int)=(m:Int):=by unfold wrap64;omega
    have j0:(0:Int)<=(m:Int):=by omega
    have j1:(m:Int)<((m+1:Nat):Int):=by omega
    clear hc hm h1;go_wp2_with fail;refine bodyPost_ret_by (results_tmp2 rfl _ _ _) rfl ?_;exact⟨by simp[hw],aP.out⟩
  ·obtain rfl:r=((l.length:Int),0):=by rw[<-HR.out];simp[lC]
   go_wp2_with fail;refine bodyPost_ret_by (results_tmp2 rfl _ _ _) rfl ?_;exact⟨rfl,aP.out⟩
omit bG hL in
theorem XM(x:Nd)(hk:x.k=1):uJ w B g p x (x.num,0):=by
 intro w' hb;obtain⟨k,num,nm,A,n,cap⟩:=x;dsimp only at *;subst hk;have xA:=aA hb;clear hb;go_enter Tryz.func174,Tryz.ntmps174;go_wp2_with fail;refine bodyPost_ret_by (results_tmp2 rfl _ _ _) rfl ?_;exact⟨rfl,by go_grown⟩
omit hL in
theorem tW(x:Nd)(hk:x.k=2∨x.k=3∨x.k=4∨x.k=5){r:Int×Int}(hv:∀W,Below B w W->Calls Tryz.prog 188 #[.agg #[.int .u8 x.k,.int .i64 x.num,.string x.nm,.slice x.A x.n x.cap],(.func (.func g) #[p] #[])] W fun e w''=>e=.returned (.tuple #[.int .i64 r.1,.int .i64 r.2])∧Below W.heap.size W w''):uJ w B g p x r:=by
 intro w' hb;have HV:=aA hv;obtain⟨k,num,nm,A,n,cap⟩:=x;dsimp only at *;clear hv;have k1:(k==1)=false:=bqN.2 (by omega);rcases hk with hk|hk|hk|hk
 ·have k2:(k==2)=true:=beq_iff_eq.2 (by omega)
  clear hk;go_enter Tryz.func174,Tryz.ntmps174;have bC:B<=w'.heap.size:=(by have:=hb.size;omega);have HB:=aA hb;clear hb;go_upto_region 1 with fail;refine aB ?_;intro w1 aF;have aG:Below w'.heap.size w' w1:=(by rw[aF];go_grown);have K1:Blk w1 w'.heap.size 26 #[.int .u8 k,.int .i64 num,.string nm,.slice A n cap]:=(by rw[aF];exact aQ);have a9:=aA K1;have aO:=aA aG;have pU:=aA (HB.out.trans (aG.mono bC));clear aF aG;obtain⟨aL,aJ,aK⟩:=K1.open_;clear K1;go_wp2_with fail;refine(HV.out w1 pU.out).mono ?_;rintro en w2 ⟨rfl,hb2⟩;have aP:=aA (aO.out.next hb2);have F3:=aA (HB.out.trans ((aO.out.next hb2).mono bC));have K2:=a9.out.next hb2;clear aJ aL aK hb2;have bI:=aA K2;obtain⟨aL,aJ,aK⟩:=K2.open_;clear K2;go_wp2_with fail;refine bodyPost_ret_by (results_tmp2 rfl _ _ _) rfl ?_;exact⟨rfl,aP.out⟩
 ·have k2:(k==2)=false:=bqN.2 (by omega)
  have k3:(k==3)=true:=beq_iff_eq.2 (by omega);clear hk;go_enter Tryz.func174,Tryz.ntmps174;have bC:B<=w'.heap.size:=(by have:=hb.size;omega);have HB:=aA hb;clear hb;go_upto_region 1 with fail;refine aB ?_;intro w1 aF;have aG:Below w'.heap.size w' w1:=(by rw[aF];go_grown);have K1:Blk w1 w'.heap.size 26 #[.int .u8 k,.int .i64 num,.string nm,.slice A n cap]:=(by rw[aF];exact aQ);have a9:=aA K1;have aO:=aA aG;have pU:=aA (HB.out.trans (aG.mono bC));clear aF aG;obtain⟨aL,aJ,aK⟩:=K1.open_;clear K1;go_wp2_with fail;refine(HV.out w1 pU.out).mono ?_;rintro en w2 ⟨rfl,hb2⟩;have aP:=aA (aO.out.next hb2);have F3:=aA (HB.out.trans ((aO.out.next hb2).mono bC));have K2:=a9.out.next hb2;clear aJ aL aK hb2;have bI:=aA K2;obtain⟨aL,aJ,aK⟩:=K2.open_;clear K2;go_wp2_with fail;refine bodyPost_ret_by (results_tmp2 rfl _ _ _) rfl ?_;exact⟨rfl,aP.out⟩
 ·have k2:(k==2)=false:=bqN.2 (by omega)
  have k3:(k==3)=false:=bqN.2 (by omega);have k4:(k==4)=true:=beq_iff_eq.2 (by omega);clear hk;go_enter Tryz.func174,Tryz.ntmps174;have bC:B<=w'.heap.size:=(by have:=hb.size;omega);have HB:=aA hb;clear hb;go_upto_region 1 with fail;refine aB ?_;intro w1 aF;have aG:Below w'.heap.size w' w1:=(by rw[aF];go_grown);have K1:Blk w1 w'.heap.size 26 #[.int .u8 k,.int .i64 num,.string nm,.slice A n cap]:=(by rw[aF];exact aQ);have a9:=aA K1;have aO:=aA aG;have pU:=aA (HB.out.trans (aG.mono bC));clear aF aG;obtain⟨aL,aJ,aK⟩:=K1.open_;clear K1;go_wp2_with fail;refine(HV.out w1 pU.out).mono ?_;rintro en w2 ⟨rfl,hb2⟩;have aP:=aA (aO.out.next hb2);have F3:=aA (HB.out.trans ((aO.out.next hb2).mono bC));have K2:=a9.out.next hb2;clear aJ aL aK hb2;have bI:=aA K2;obtain⟨aL,aJ,aK⟩:=K2.open_;clear K2;go_wp2_with fail;refine bodyPost_ret_by (results_tmp2 rfl _ _ _) rfl ?_;exact⟨rfl,aP.out⟩
 ·have k2:(k==2)=false:=bqN.2 (by omega)
  have k3:(k==3)=false:=bqN.2 (by omega);have k4:(k==4)=false:=bqN.2 (by omega);have k5:(k==5)=true:=beq_iff_eq.2 (by omega);clear hk;go_enter Tryz.func174,Tryz.ntmps174;have bC:B<=w'.heap.size:=(by have:=hb.size;omega);have HB:=aA hb;clear hb;go_upto_region 1 with fail;refine aB ?_;intro w1 aF;have aG:Below w'.heap.size w' w1:=(by rw[aF];go_grown);have K1:Blk w1 w'.heap.size 26 #[.int .u8 k,.int .i64 num,.string nm,.slice A n cap]:=(by rw[aF];exact aQ);have a9:=aA K1;have aO:=aA aG;have pU:=aA (HB.out.trans (aG.mono bC));clear aF aG;obtain⟨aL,aJ,aK⟩:=K1.open_;clear K1;go_wp2_with fail;refine(HV.out w1 pU.out).mono ?_;rintro en w2 ⟨rfl,hb2⟩;have aP:=aA (aO.out.next hb2);have F3:=aA (HB.out.trans ((aO.out.next hb2).mono bC));have K2:=a9.out.next hb2;clear aJ aL aK hb2;have bI:=aA K2;obtain⟨aL,aJ,aK⟩:=K2.open_;clear K2;go_wp2_with fail;refine bodyPost_ret_by (results_tmp2 rfl _ _ _) rfl ?_;exact⟨rfl,aP.out⟩
omit hL in
theorem EC(x:Nd)(hk:6<=x.k∧x.k<=23)(hn:0<x.n){y:Nd}(cS:Kid w B x 0 y){r:Int×Int}(ih:uJ w B g p y r)(he:r.2≠0):uJ w B g p x (0,r.2):=by
 intro w' hb;have HB:=aA hb;have gE:=aA cS;have HV:=aA ih;have bC:B<=w'.heap.size:=by have:=hb.size;omega
 clear hb cS ih;obtain⟨k,num,nm,A,n,cap⟩:=x;obtain⟨rv,re⟩:=r;dsimp only at *;obtain⟨gk,ok,B8,Us,c0,c1,c2,c3⟩:=gE.out.cells HB.out;rw[Nat.zero_mul,Nat.add_zero]at c0 c1 c2 c3;dsimp only at B8;subst B8;have C0:=aA c0;have C1:=aA c1;have C2:=aA c2;have C3:=aA c3;clear c0 c1 c2 c3;have k1:(k==1)=false:=bqN.2 (by omega);have k2:(k==2)=false:=bqN.2 (by omega);have k3:(k==3)=false:=bqN.2 (by omega);have k4:(k==4)=false:=bqN.2 (by omega);have k5:(k==5)=false:=bqN.2 (by omega);have dG:(re !=0)=true:=bne_iff_ne.2 he;have q0:(0:Int)<(n:Int):=by omega
 go_enter Tryz.func174,Tryz.ntmps174;(go_upto_region 1 with fail;refine aB ?_;intro w1 aF;have aG:Below w'.heap.size w' w1:=(by rw[aF];go_grown);have K1:Blk w1 w'.heap.size 26 #[.int .u8 k,.int .i64 num,.string nm,.slice (some ⟨gk,ok,none⟩) n cap]:=(by rw[aF];exact aQ);have a9:=aA K1;have aO:=aA aG;have pU:=aA (HB.out.trans (aG.mono bC));clear aF aG;obtain⟨aL,aJ,aK⟩:=K1.open_;clear K1;have c0:=(aO.out.cell (p:=⟨gk,ok,none⟩) (by show gk<_;omega)).trans C0.out;have c1:=(aO.out.cell (p:=⟨gk,ok+1,none⟩) (by show gk<_;omega)).trans C1.out;have c2:=(aO.out.cell (p:=⟨gk,ok+2,none⟩) (by show gk<_;omega)).trans C2.out;have c3:=(aO.out.cell (p:=⟨gk,ok+3,none⟩) (by show gk<_;omega)).trans C3.out)
 go_wp2_with fail;refine(HV.out w1 pU.out).mono ?_;rintro en w2 ⟨rfl,hb2⟩;have aP:=aA (aO.out.next hb2);have F3:=aA (HB.out.trans ((aO.out.next hb2).mono bC));have K2:=a9.out.next hb2;clear aJ aL aK hb2;have bI:=aA K2;obtain⟨aL,aJ,aK⟩:=K2.open_;clear K2;clear c0 c1 c2 c3;go_wp2_with fail;refine bodyPost_ret_by (results_tmp2 rfl _ _ _) rfl ?_;exact⟨rfl,aP.out⟩
omit hL in
theorem Ib(x:Nd)(hk:x.k=6∨x.k=7)(hn:x.n=1){y:Nd}(cS:Kid w B x 0 y){r:Int×Int}(ih:uJ w B g p y r)(he:r.2=0):uJ w B g p x (if x.k=6 then Go.RowKit.wrap64 (-r.1)else if r.1=0 then 1 else 0,0):=by
 intro w' hb;have HB:=aA hb;have gE:=aA cS;have HV:=aA ih;have bC:B<=w'.heap.size:=by have:=hb.size;omega
 clear hb cS ih;obtain⟨k,num,nm,A,n,cap⟩:=x;obtain⟨rv,re⟩:=r;dsimp only at *;obtain⟨gk,ok,B8,Us,c0,c1,c2,c3⟩:=gE.out.cells HB.out;rw[Nat.zero_mul,Nat.add_zero]at c0 c1 c2 c3;dsimp only at B8;subst B8;have C0:=aA c0;have C1:=aA c1;have C2:=aA c2;have C3:=aA c3;clear c0 c1 c2 c3;subst hn;subst he;have HU:=aA (fun W=>CT k rv hk W);generalize (if k=6 then Go.RowKit.wrap64 (-rv)else if rv=0 then 1 else 0)=q at *;have k1:(k==1)=false:=bqN.2 (by omega);have k2:(k==2)=false:=bqN.2 (by omega);have k3:(k==3)=false:=bqN.2 (by omega);have k4:(k==4)=false:=bqN.2 (by omega);have k5:(k==5)=false:=bqN.2 (by omega);go_enter Tryz.func174,Tryz.ntmps174
 (go_upto_region 1 with fail;refine aB ?_;intro w1 aF;have aG:Below w'.heap.size w' w1:=(by rw[aF];go_grown);have K1:Blk w1 w'.heap.size 26 #[.int .u8 k,.int .i64 num,.string nm,.slice (some ⟨gk,ok,none⟩) 1 cap]:=(by rw[aF];exact aQ);have a9:=aA K1;have aO:=aA aG;have pU:=aA (HB.out.trans (aG.mono bC));clear aF aG;obtain⟨aL,aJ,aK⟩:=K1.open_;clear K1;have c0:=(aO.out.cell (p:=⟨gk,ok,none⟩) (by show gk<_;omega)).trans C0.out;have c1:=(aO.out.cell (p:=⟨gk,ok+1,none⟩) (by show gk<_;omega)).trans C1.out;have c2:=(aO.out.cell (p:=⟨gk,ok+2,none⟩) (by show gk<_;omega)).trans C2.out;have c3:=(aO.out.cell (p:=⟨gk,ok+3,none⟩) (by show gk<_;omega)).trans C3.out)
 go_wp2_with fail;refine(HV.out w1 pU.out).mono ?_;rintro en w2 ⟨rfl,hb2⟩;have aP:=aA (aO.out.next hb2);have F3:=aA (HB.out.trans ((aO.out.next hb2).mono bC));have K2:=a9.out.next hb2;clear aJ aL aK hb2;have bI:=aA K2;obtain⟨aL,aJ,aK⟩:=K2.open_;clear K2;clear c0 c1 c2 c3;go_wp2_with fail;refine(HU.out w2).mono ?_;rintro en w3 ⟨rfl,rfl⟩;go_wp2_with fail;refine bodyPost_ret_by (results_tmp2 rfl _ _ _) rfl ?_;exact⟨rfl,aP.out⟩
omit hL in
theorem XL(x:Nd)(hk:8<=x.k∧x.k<=23)(hn:x.n=2){y z:Nd}(cS:Kid w B x 0 y)(sU:Kid w B x 1 z){r q:Int×Int}(ih:uJ w B g p y r)(ih2:uJ w B g p z q)(he:r.2=0):uJ w B g p x (if q.2≠0 then(0,q.2)else apply x.k r.1 q.1):=by
 intro w' hb;have HB:=aA hb;have gE:=aA cS;have SB:=aA sU;have HV:=aA ih;have Zl:=aA ih2;have bC:B<=w'.heap.size:=by have:=hb.size;omega
 clear hb cS sU ih ih2;obtain⟨k,num,nm,A,n,cap⟩:=x;obtain⟨rv,re⟩:=r;obtain⟨qv,qe⟩:=q;dsimp only at *;obtain⟨gk,ok,B8,Us,c0,c1,c2,c3⟩:=gE.out.cells HB.out;rw[Nat.zero_mul,Nat.add_zero]at c0 c1 c2 c3;dsimp only at B8;subst B8;have C0:=aA c0;have C1:=aA c1;have C2:=aA c2;have C3:=aA c3;clear c0 c1 c2 c3;subst hn;subst he;have HA:=aA (fun W=>CQ k rv qv W);obtain⟨ar,har⟩:∃ar,apply k rv qv=ar:=⟨_,rfl⟩;rw[har]at HA⊢;obtain⟨av,ae⟩:=ar;dsimp only at HA;clear har;have k1:(k==1)=false:=bqN.2 (by omega);have k2:(k==2)=false:=bqN.2 (by omega);have k3:(k==3)=false:=bqN.2 (by omega);have k4:(k==4)=false:=bqN.2 (by omega);have k5:(k==5)=false:=bqN.2 (by omega);go_enter Tryz.func174,Tryz.ntmps174
 (go_upto_region 1 with fail;refine aB ?_;intro w1 aF;have aG:Below w'.heap.size w' w1:=(by rw[aF];go_grown);have K1:Blk w1 w'.heap.size 26 #[.int .u8 k,.int .i64 num,.string nm,.slice (some ⟨gk,ok,none⟩) 2 cap]:=(by rw[aF];exact aQ);have a9:=aA K1;have aO:=aA aG;have pU:=aA (HB.out.trans (aG.mono bC));clear aF aG;obtain⟨aL,aJ,aK⟩:=K1.open_;clear K1;have c0:=(aO.out.cell (p:=⟨gk,ok,none⟩) (by show gk<_;omega)).trans C0.out;have c1:=(aO.out.cell (p:=⟨gk,ok+1,none⟩) (by show gk<_;omega)).trans C1.out;have c2:=(aO.out.cell (p:=⟨gk,ok+2,none⟩) (by show gk<_;omega)).trans C2.out;have c3:=(aO.out.cell (p:=⟨gk,ok+3,none⟩) (by show gk<_;omega)).trans C3.out)
 go_wp2_with fail;refine(HV.out w1 pU.out).mono ?_;rintro en w2 ⟨rfl,hb2⟩;have aP:=aA (aO.out.next hb2);have F3:=aA (HB.out.trans ((aO.out.next hb2).mono bC));have K2:=a9.out.next hb2;clear aJ aL aK hb2;have bI:=aA K2;obtain⟨aL,aJ,aK⟩:=K2.open_;clear K2;clear c0 c1 c2 c3;obtain⟨gk',ok',B8,aA4,c0,c1,c2,c3⟩:=SB.out.cells F3.out;rw[Nat.one_mul]at c0 c1 c2 c3;dsimp only at B8;injection B8 with B8;injection B8 with e1 e2;subst e1;subst e2;go_wp2_with fail;refine(Zl.out w2 F3.out).mono ?_;rintro en w3 ⟨rfl,aT⟩;have bD:=aA (aP.out.next aT);have K3:=bI.out.next aT;clear aJ aL aK aT c0 c1 c2 c3;obtain⟨aL,aJ,aK⟩:=K3.open_;clear K3;by_cases hq:qe=0
 ·subst hq
  go_wp2_with fail;refine(HA.out w3).mono ?_;rintro en w4 ⟨rfl,rfl⟩;go_wp2_with fail;refine bodyPost_ret_by (results_tmp2 rfl _ _ _) rfl ?_;exact⟨by simp,bD.out⟩
 ·have dG:(qe !=0)=true:=bne_iff_ne.2 hq
  go_wp2_with fail;refine bodyPost_ret_by (results_tmp2 rfl _ _ _) rfl ?_;exact⟨by simp[hq],bD.out⟩
theorem M2:∀(e:Ex)(x:Nd),EV w B aS e x->uJ w B g p x (aX look e):=by
 intro e
 induction e with
 |num v=>intro x ⟨h1,h2,_⟩;have:=XM (w:=w) (B:=B) (g:=g) (p:=p) x h1;rwa [h2]at this
 |var s=>
  intro x ⟨h1,h2,h3,h4,h5⟩;have:=tW bG x (.inl h1) (fun W hW=>B7 bG hL x (.inl h1) (ra:=(0,0)) (fun h=>by omega) W hW);rw[h1,h3]at this;have e1:lC 2 (look s) (0,0)=aX look (.var s):=by simp only[lC,aX];cases look s<;>simp
  rwa [e1]at this
 |top s=>
  intro x ⟨h1,h2,h3,h4,h5⟩;have:=tW bG x (.inr (.inr (.inl h1))) (fun W hW=>B7 bG hL x (.inr (.inr (.inl h1))) (ra:=(0,0)) (fun h=>by omega) W hW);rw[h1,h3]at this;have e1:lC 4 (look s) (0,0)=aX look (.top s):=by simp only[lC,aX];cases look s<;>simp
  rwa [e1]at this
 |size s=>
  intro x ⟨h1,h2,h3,h4,h5⟩;have:=tW bG x (.inr (.inr (.inr h1))) (fun W hW=>B7 bG hL x (.inr (.inr (.inr h1))) (ra:=(0,0)) (fun h=>by omega) W hW);rw[h1,h3]at this;have e1:lC 5 (look s) (0,0)=aX look (.size s):=by simp only[lC,aX];cases look s<;>simp
  rwa [e1]at this
 |item s a ih=>
  intro x ⟨h1,h2,h3,h4,h5,y,h6,h7⟩;have:=tW bG x (.inr (.inl h1)) (fun W hW=>B7 bG hL x (.inr (.inl h1)) (ra:=aX look a) (fun _=>⟨h5,y,h6,ih y h7⟩) W hW);rw[h1,h3]at this;have e1:lC 3 (look s) (aX look a)=aX look (.item s a):=by simp only[lC,aX];cases look s<;>simp
  rwa [e1]at this
 |un op a ih=>
  intro x ⟨h1,h2,h3,h4,h5,y,h6,h7⟩;by_cases h0:(aX look a).2=0
  ·have:=Ib bG x (by omega) h5 h6 (ih y h7) h0
   rw[h1]at this;have e1:aX look (.un op a)=(if op=6 then Go.RowKit.wrap64 (-(aX look a).1)else if(aX look a).1=0 then 1 else 0,0):=by
    rw[aX,if_neg (by omega)];split<;>rfl
   rwa [<-e1]at this
  ·have:=EC bG x (by omega) (by omega) h6 (ih y h7) h0
   rwa [show aX look (.un op a)=(0,(aX look a).2) by rw[aX,if_pos h0]]
 |bin op a b iha ihb=>
  intro x ⟨h1,h2,h3,h4,h5,y,z,h6,h7,h8,h9⟩;by_cases h0:(aX look a).2=0
  ·have:=XL bG x (by omega) h5 h6 h7 (iha y h8) (ihb z h9) h0
   rw[h1]at this
   rwa [show aX look (.bin op a b)=if(aX look b).2≠0 then(0,(aX look b).2)else apply op (aX look a).1 (aX look b).1 by rw[aX,if_neg (by omega)]]
  ·have:=EC bG x (by omega) (by omega) h6 (iha y h8) h0
   rwa [show aX look (.bin op a b)=(0,(aX look a).2) by rw[aX,if_pos h0]]
end
section
variable{w:World}{B d:Nat}(bG:B<=w.heap.size){g:FuncId}{p:Value}{look:ByteArray->Option (List Int)}(hL:SV w B g p look)
include bG hL
theorem zX(e:Ex)(x:Nd)(hx:EV w B aS e x)(tP:KV w B d x)(w':World)(hb:Below B w w'):
  Calls Tryz.prog 155 #[.agg #[.int .u8 x.k,.int .i64 x.num,.string x.nm,.slice x.A x.n x.cap],(.func (.func g) #[p] #[])] w' fun en w''=>en=.returned (.tuple #[.int .i64 (aX look e).1,.int .i64 (aX look e).2])∧Below w'.heap.size w' w'':=by
 have HV:=aA (M2 bG hL e x hx);have XY:Hid (∀W,Below B w W->Calls Tryz.prog 122 #[.agg #[.int .u8 x.k,.int .i64 x.num,.string x.nm,.slice x.A x.n x.cap]] W fun en w''=>en=.returned (.bool true)∧Below W.heap.size W w''):=aA fun W hW=>uZ bG d x tP W hW true ⟨fun _=>⟨e,hx⟩,fun _=>rfl⟩
 obtain⟨r,hr⟩:∃r,aX look e=r:=⟨_,rfl⟩;rw[hr]at HV⊢;have pG:=M4;clear hL hx tP hr;obtain⟨k,num,nm,A,n,cap⟩:=x;dsimp only at *;go_enter Tryz.func155,Tryz.ntmps155;have bC:B<=w'.heap.size:=(by have:=hb.size;omega);have HB:=aA hb;clear hb;go_upto_region 1 with fail;refine aB ?_;intro w1 aF;have aG:Below w'.heap.size w' w1:=(by rw[aF];go_grown);have K1:Blk w1 w'.heap.size 26 #[.int .u8 k,.int .i64 num,.string nm,.slice A n cap]:=(by rw[aF];exact aQ);have a9:=aA K1;have aO:=aA aG;have pU:=aA (HB.out.trans (aG.mono bC));clear aF aG;obtain⟨aL,aJ,aK⟩:=K1.open_;clear K1;go_wp2_with fail;refine(XY.out w1 pU.out).mono ?_;rintro en w2 ⟨rfl,hb2⟩;have aP:=aA (aO.out.next hb2);have F3:=aA (HB.out.trans ((aO.out.next hb2).mono bC));have K2:=a9.out.next hb2;clear aJ aL aK hb2;have bI:=aA K2;obtain⟨aL,aJ,aK⟩:=K2.open_;clear K2;go_wp2_with fail;refine(HV.out w2 F3.out).mono ?_;rintro en w3 ⟨rfl,aT⟩;have bD:=aA (aP.out.next aT);clear aJ aL aK aT;go_wp2_with fail;refine bodyPost_ret_by (results_tmp2 rfl _ _ _) rfl ?_;exact⟨rfl,bD.out⟩
theorem UD(e:Ex)(x:Nd)(hx:EV w B aS e x)(tP:KV w B d x)(w':World)(hb:Below B w w'):
  Calls Tryz.prog 153 #[.agg #[.int .u8 x.k,.int .i64 x.num,.string x.nm,.slice x.A x.n x.cap],(.func (.func g) #[p] #[])] w' fun en w''=>en=.returned (.tuple #[.bool (decide ((aX look e).1≠0)),.int .i64 (aX look e).2])∧Below w'.heap.size w' w'':=by
 have HV:=aA (fun W hW=>zX bG hL e x hx tP W hW);obtain⟨r,hr⟩:∃r,aX look e=r:=⟨_,rfl⟩;rw[hr]at HV⊢;clear hL hx tP hr;obtain⟨k,num,nm,A,n,cap⟩:=x;dsimp only at *;obtain⟨rb,hrb⟩:∃rb,decide (r.1≠0)=rb:=⟨_,rfl⟩;have aBb:(r.1 !=0)=rb:=by rw[<-hrb];by_cases h:r.1=0<;>simp[h]
 rw[hrb];have JW:=aA hrb;obtain⟨r1,r2⟩:=r;dsimp only at *;clear hrb;go_enter Tryz.func153,Tryz.ntmps153;have bC:B<=w'.heap.size:=(by have:=hb.size;omega);have HB:=aA hb;clear hb;go_upto_region 1 with fail;refine aB ?_;intro w1 aF;have aG:Below w'.heap.size w' w1:=(by rw[aF];go_grown);have K1:Blk w1 w'.heap.size 26 #[.int .u8 k,.int .i64 num,.string nm,.slice A n cap]:=(by rw[aF];exact aQ);have a9:=aA K1;have aO:=aA aG;have pU:=aA (HB.out.trans (aG.mono bC));clear aF aG;obtain⟨aL,aJ,aK⟩:=K1.open_;clear K1;go_wp2_with fail;refine(HV.out w1 pU.out).mono ?_;rintro en w2 ⟨rfl,hb2⟩;have aP:=aA (aO.out.next hb2);have F3:=aA (HB.out.trans ((aO.out.next hb2).mono bC));have K2:=a9.out.next hb2;clear aJ aL aK hb2;have bI:=aA K2;obtain⟨aL,aJ,aK⟩:=K2.open_;clear K2;go_wp2_with fail;refine bodyPost_ret_by (results_tmp2 rfl _ _ _) rfl ?_;exact⟨rfl,aP.out⟩
omit bG hL in
theorem kV{e:Ex}{x:Nd}(hx:EV w B aS e x)(hp:e.isPl):oU w B x=true:=by
 unfold oU;have h1:j8 w B x=true:=by simp[j8];exact⟨e,hx⟩
 rw[h1,Bool.and_true];cases e with
 |var s=>simp[hx.1]
 |item s a=>simp[hx.1]
 |num v=>exact hp.elim
 |top s=>exact hp.elim
 |size s=>exact hp.elim
 |un op a=>exact hp.elim
 |bin op a b=>exact hp.elim
theorem mN(e:Ex)(x:Nd)(hx:EV w B aS e x)(hp:e.isPl)(tP:KV w B d x)(w':World)(hb:Below B w w'):
  Calls Tryz.prog 157 #[.agg #[.int .u8 x.k,.int .i64 x.num,.string x.nm,.slice x.A x.n x.cap],(.func (.func g) #[p] #[])] w' fun en w''=>en=.returned (.tuple #[.int .i64 (c9 look e).1,.int .i64 (c9 look e).2])∧Below w'.heap.size w' w'':=by
 have XY:Hid (∀W,Below B w W->Calls Tryz.prog 121 #[.agg #[.int .u8 x.k,.int .i64 x.num,.string x.nm,.slice x.A x.n x.cap]] W fun en w''=>en=.returned (.bool true)∧Below W.heap.size W w''):=aA fun W hW=>by have:=iU bG x tP W hW;rwa [kV hx hp]at this
 have pG:=M4;cases e with
 |num v=>exact hp.elim
 |top s=>exact hp.elim
 |size s=>exact hp.elim
 |un op a=>exact hp.elim
 |bin op a b=>exact hp.elim
 |var s=>
  obtain⟨h1,h2,h3,h4,h5⟩:=hx;clear h2 h3 h4 h5;show Calls _ _ _ _ fun en w''=>en=.returned (.tuple #[.int .i64 0,.int .i64 0])∧_
  clear hL tP;obtain⟨k,num,nm,A,n,cap⟩:=x;dsimp only at *;have k2:(k==2)=true:=beq_iff_eq.2 h1;clear h1;go_enter Tryz.func157,Tryz.ntmps157;have bC:B<=w'.heap.size:=(by have:=hb.size;omega);have HB:=aA hb;clear hb;go_upto_region 1 with fail;refine aB ?_;intro w1 aF;have aG:Below w'.heap.size w' w1:=(by rw[aF];go_grown);have K1:Blk w1 w'.heap.size 26 #[.int .u8 k,.int .i64 num,.string nm,.slice A n cap]:=(by rw[aF];exact aQ);have a9:=aA K1;have aO:=aA aG;have pU:=aA (HB.out.trans (aG.mono bC));clear aF aG;obtain⟨aL,aJ,aK⟩:=K1.open_;clear K1;go_wp2_with fail;refine(XY.out w1 pU.out).mono ?_;rintro en w2 ⟨rfl,hb2⟩;have aP:=aA (aO.out.next hb2);have F3:=aA (HB.out.trans ((aO.out.next hb2).mono bC));have K2:=a9.out.next hb2;clear aJ aL aK hb2;have bI:=aA K2;obtain⟨aL,aJ,aK⟩:=K2.open_;clear K2;go_wp2_with fail;refine bodyPost_ret_by (results_tmp2 rfl _ _ _) rfl ?_;exact⟨rfl,aP.out⟩
 |item s a=>
  obtain⟨h1,h2,h3,h4,h5,y,cS,h7⟩:=hx;have HV:=aA (M2 bG hL a y h7);show Calls _ _ _ _ fun en w''=>en=.returned (.tuple #[.int .i64 (aX look a).1,.int .i64 (aX look a).2])∧_
  obtain⟨r,hr⟩:∃r,aX look a=r:=⟨_,rfl⟩;rw[hr]at HV⊢;have gE:=aA cS;clear hL tP hr cS h7;obtain⟨k,num,nm,A,n,cap⟩:=x;dsimp only at *;have k2:(k==2)=false:=bqN.2 (by omega);have q0:(0:Int)<(n:Int):=by omega
  clear h1 h2 h3 h4 h5;go_enter Tryz.func157,Tryz.ntmps157;have bC:B<=w'.heap.size:=(by have:=hb.size;omega);have HB:=aA hb;clear hb;go_upto_region 1 with fail;refine aB ?_;intro w1 aF;have aG:Below w'.heap.size w' w1:=(by rw[aF];go_grown);have K1:Blk w1 w'.heap.size 26 #[.int .u8 k,.int .i64 num,.string nm,.slice A n cap]:=(by rw[aF];exact aQ);have a9:=aA K1;have aO:=aA aG;have pU:=aA (HB.out.trans (aG.mono bC));clear aF aG;obtain⟨aL,aJ,aK⟩:=K1.open_;clear K1;go_wp2_with fail;refine(XY.out w1 pU.out).mono ?_;rintro en w2 ⟨rfl,hb2⟩;have aP:=aA (aO.out.next hb2);have F3:=aA (HB.out.trans ((aO.out.next hb2).mono bC));have K2:=a9.out.next hb2;clear aJ aL aK hb2;have bI:=aA K2;obtain⟨aL,aJ,aK⟩:=K2.open_;clear K2;obtain⟨gk,ok,B8,Us,c0,c1,c2,c3⟩:=gE.out.cells F3.out;rw[Nat.zero_mul,Nat.add_zero]at c0 c1 c2 c3;dsimp only at B8;subst B8;go_wp2_with fail;refine(HV.out w2 F3.out).mono ?_;rintro en w3 ⟨rfl,aT⟩;have bD:=aA (aP.out.next aT);clear aJ aL aK aT c0 c1 c2 c3;go_wp2_with fail;refine bodyPost_ret_by (results_tmp2 rfl _ _ _) rfl ?_;exact⟨rfl,bD.out⟩
end
end Go.Proofs.YtakfdnnlhjhcfaaGreatDoor
namespace Bk
open Go Go.RowKit
theorem EV.upS{w w':World}{B B':Nat}{nb:ByteArray->Bool}{e:Ex}{x:Nd}(h:EV w B nb e x)(hb:Below B w w')(hB:B<=B'):EV w' B' nb e x:=by
 have up:∀(e:Ex)(x:Nd),EV w' B nb e x->EV w' B' nb e x:=by
  intro e;have ku:∀{x y:Nd}{i:Nat},Kid w' B x i y->Kid w' B' x i y:=fun⟨g,o,h1,h2,h3⟩=>⟨g,o,h1,dX h2 hB,h3⟩
  induction e with
  |num v=>exact fun x h=>h
  |var s=>exact fun x h=>h
  |top s=>exact fun x h=>h
  |size s=>exact fun x h=>h
  |item s a ih=>exact fun x⟨h1,h2,h3,h4,h5,y,h6,h7⟩=>⟨h1,h2,h3,h4,h5,y,ku h6,ih y h7⟩
  |un op a ih=>exact fun x⟨h1,h2,h3,h4,h5,y,h6,h7⟩=>⟨h1,h2,h3,h4,h5,y,ku h6,ih y h7⟩
  |bin op a b iha ihb=>exact fun x⟨h1,h2,h3,h4,h5,y,z,h6,h7,h8,h9⟩=>⟨h1,h2,h3,h4,h5,y,z,ku h6,ku h7,iha y h8,ihb z h9⟩
 exact up e x (h.next hb e x)
theorem KV.upS{w w':World}{B B' d:Nat}{x:Nd}(h:KV w B d x)(hb:Below B w w')(hB:B<=B'):KV w' B' d x:=by
 have up:∀(d:Nat)(x:Nd),KV w' B d x->KV w' B' d x:=by
  intro d
  induction d with
  |zero=>exact fun x h=>h
  |succ d ih=>exact fun x⟨h1,h2,h3,h4,h5,h6⟩=>⟨h1,h2,h3,h4,h5,fun i hi=>let ⟨y,⟨g,o,a,b,c⟩,h8⟩:=h6 i hi;⟨y,⟨g,o,a,dX b hB,c⟩,ih y h8⟩⟩
 exact up d x (KV.next hb d x h)
end Bk
namespace Go.Proofs.YtakfdnnlhjhcfaaGreatDoor
open Go.RowKit Bk
structure RAt(w0:World)(B0:Nat)(w:World)(r:Nat)(R:Rn)(S:Sv)(σ:PSt)(fuel f:Nat)(kd:Nat->Int)(m:Nat):Prop where
 base:Below B0 w0 w
 blk:Blk w r 86 (R.cells ((fuel:Int)-f) fuel)
 on:SOn w B0 S σ
 ok:σ.Ok kd m
 st:S.st=R.st
 ro:S.ro r=.none
 rb:B0<=r
 ent:∃g cp n xs,R.ent=.slice (some ⟨g,0,none⟩) n cp∧w.ownsRow B0 3 1 R.ent n (aC xs)∧xs.length=n∧S.ro g=.none∧g≠r
 ff:f<=fuel
 fm:m+f<=3000
 fu:fuel<=2000
 m0:32<=m
 kx:∀b,R.X b->b<w.heap.size∧S.ro b=.none∧b≠r∧R.ent.ownBlock≠some b
 kp:∀b,R.X b->w.heap[b]?=w0.heap[b]?
def Bs(w0:World)(B0:Nat)(R:Rn)(w:World):Prop:=Below B0 w0 w∧∀b,R.X b->w.heap[b]?=w0.heap[b]?
def RO(S:Sv)(R:Rn)(r:Nat)(k:Nat):Prop:=S.ro k≠ .none∨k=r∨R.ent.ownBlock=some k
section
variable{w0 w w':World}{B0 r fuel f m:Nat}{R:Rn}{S:Sv}{σ:PSt}{kd:Nat->Int}
theorem RAt.bs(h:RAt w0 B0 w r R S σ fuel f kd m):Bs w0 B0 R w:=⟨h.base,h.kp⟩
theorem RAt.kpF(h:RAt w0 B0 w r R S σ fuel f kd m){O:Nat->Prop}(hf:Fr O w w')(hO:∀b,S.ro b=.none->b≠r->R.ent.ownBlock≠some b->¬O b):∀b,R.X b->w'.heap[b]?=w0.heap[b]?:=fun b hb=>(hf.block b (h.kx b hb).1 (hO b (h.kx b hb).2.1 (h.kx b hb).2.2.1 (h.kx b hb).2.2.2)).trans (h.kp b hb)
theorem RAt.kxF(h:RAt w0 B0 w r R S σ fuel f kd m){S':Sv}(hx:S.Ext S' w)(hs:w.heap.size<=w'.heap.size):∀b,R.X b->b<w'.heap.size∧S'.ro b=.none∧b≠r∧R.ent.ownBlock≠some b:=fun b hb=>⟨dX (h.kx b hb).1 hs,(hx.2 b (h.kx b hb).1).trans (h.kx b hb).2.1,(h.kx b hb).2.2⟩
theorem RAt.next(h:RAt w0 B0 w r R S σ fuel f kd m)(hb:Below w.heap.size w w')(hB:B0<=w.heap.size):RAt w0 B0 w' r R S σ fuel f kd m:=by
 obtain⟨g,cp,n,xs,e1,e2,e3⟩:=h.ent;exact⟨h.base.trans (hb.mono hB),h.blk.next hb,h.on.next hb,h.ok,h.st,h.ro,h.rb,⟨g,cp,n,xs,e1,aZ e2 hb (aH _),e3⟩,h.ff,h.fm,h.fu,h.m0,h.kxF (Sv.Ext.refl _ _) hb.size,h.kpF (Fr.of (O:=fun _=>False) hb) fun _ _ _ _ h=>h⟩
theorem RAt.B(h:RAt w0 B0 w r R S σ fuel f kd m):B0<=w.heap.size:=fC h.rb (Nat.le_of_lt h.blk.lt)
theorem RAt.lk(h:RAt w0 B0 w r R S σ fuel f kd m):SV w w.heap.size 154 (.pointer (some ⟨R.st,0,none⟩)) σ.look:=
 ⟨fun _ _=>rfl,fun s w' hb=>by have:=Dv (h.on.next hb) h.ok (by have:=h.fm;omega) s;rwa [h.st]at this,fun s l hl=>h.ok.lookLen hl⟩
theorem CW{d:Nat}(h:RAt w0 B0 w r R S σ fuel f kd m){e:Ex}{x:Nd}(hx:EV w0 B0 aS e x)(hk:KV w0 B0 d x):
  Calls Tryz.prog 128 #[.pointer (some ⟨r,0,none⟩),.agg #[.int .u8 x.k,.int .i64 x.num,.string x.nm,.slice x.A x.n x.cap]] w fun en w'=>(if(aX σ.look e).2≠0 then en=bZ (aX σ.look e).2 else en=.returned (.int .i64 (aX σ.look e).1))∧Below w.heap.size w w':=by
 have HE:=aA (fun W hW=>zX (aH _) h.lk e x (hx.upS h.base h.B) (hk.upS h.base h.B) W hW);have HK:=aA h.blk;have HF:=aA (fun(y:Int)(hy:y≠0) W=>kJ (.pointer (some ⟨r,0,none⟩)) y hy W);have HC:=aA (fun W=>kI (.pointer (some ⟨r,0,none⟩)) W);have Ro:=h.blk.lt;obtain⟨q,hq⟩:∃q,aX σ.look e=q:=⟨_,rfl⟩;rw[hq]at HE⊢;obtain⟨v,er⟩:=q;dsimp only at *;clear h hx hk hq;obtain⟨k,num,nm,A,n,cap⟩:=x;dsimp only at *;unfold bZ at *;unfold Rn.cells at HK;obtain⟨V,Q,M,st,ent,RX⟩:=R;dsimp only at HK HE;go_enter Tryz.func128,Tryz.ntmps128;go_upto_region 1 with fail;refine aB ?_;intro w1 aF;have aG:Below w.heap.size w w1:=(by rw[aF];go_grown);have K1:Blk w1 w.heap.size 26 #[.int .u8 k,.int .i64 num,.string nm,.slice A n cap]:=(by rw[aF];exact aQ);have a9:=aA K1;have aO:=aA aG;have K2:=aA (HK.out.next aG);clear aF aG K1;refine gJ (by kernel_rfl) (by kernel_rfl) ?_;intro W hW;have AM:Nonempty (JE W):=⟨⟨W,aM _ _⟩⟩;have IJ:=aA (fun z=>Below.next (show Below w.heap.size w W by rw[hW];exact aO.out) (dM W z));have YN:=aA (fun z=>(show Below w1.heap.size w1 (grow W z) by rw[<-hW];exact dM W z));have Z_1:=fun z=>(a9.out.next (w':=grow W z) (by rw[<-hW];exact dM W z)).cell;have Z_2:=fun z=>(K2.out.next (w':=grow W z) (by rw[<-hW];exact dM W z)).cell;have HW:=aA hW;clear hW
 repeat (go_big_quiet_step ((first|(go_at_call 155;with_reducible exact gS (HE.out _ (IJ.out _))))))
 refine wpQuiet_nil ?_;rintro _ ⟨z,rfl⟩;have aP:=aA (IJ.out z);have zK:=aA (YN.out z);clear Z_1 Z_2 IJ YN;generalize grow W z=w2 at *;clear HW AM;by_cases h0:er=0
 ·subst h0
  go_wp2_with fail;refine(HC.out w2).mono ?_;rintro en w3 ⟨rfl,rfl⟩;go_wp2_with fail;go_ret;exact⟨by simp,aP.out⟩
 ·go_wp2_with fail
  refine(HF.out er h0 w2).mono ?_;rintro en w3 ⟨rfl,rfl⟩;go_wp2_with fail;exact⟨rfl,by simp[h0],aP.out⟩
def j9(look:ByteArray->Option (List Int))(e:Ex)(f:Nat):Except Int (Bool×Nat):=match f with
 |0=>.error 18
 |f+1=>if(aX look e).2≠0 then .error (aX look e).2 else .ok (decide ((aX look e).1≠0),f)
theorem nT(e:Ex)(k:Bool->Mo)(σ:PSt)(f:Nat):fF e k σ f=match j9 σ.look e f with
  |.error x=>.error x
  |.ok r=>k r.1 σ r.2:=by
 unfold fF j9;cases f with
 |zero=>rfl
 |succ f=>
  simp only[Mo.seq,PO,b8];by_cases h:(aX σ.look e).2≠0
  ·rw[if_pos h];simp only[if_pos h]
  ·rw[if_neg h];simp only[if_neg h]
def uG(w0:World)(B0:Nat)(w:World)(r:Nat)(R:Rn)(S:Sv)(σ:PSt)(fuel:Nat)(kd:Nat->Int)(m:Nat)(q:Except Int (Bool×Nat))(en:Ending)(w':World):Prop:=match q with
 |.error x=>en=bZ x∧Bs w0 B0 R w'
 |.ok b=>en=.returned (.bool b.1)∧RAt w0 B0 w' r R S σ fuel b.2 kd m∧Fr (RO S R r) w w'
theorem RAt.stepTo(h:RAt w0 B0 w r R S σ fuel (f+1) kd m)(hb:Blk w' r 86 (R.cells ((fuel:Int)-f) fuel))(hf:Fr (fun k=>k=r) w w'):RAt w0 B0 w' r R S σ fuel f kd m:=by
 obtain⟨g,cp,n,xs,e1,e2,e3,e4,e5⟩:=h.ent;have hB:=h.B;refine⟨h.base.trans (hf.below hB fun k hk=>by rw[hk];exact h.rb),hb,h.on.other hf fun k _ hk=>by rw[hk];exact h.ro,h.ok,h.st,h.ro,h.rb,⟨g,cp,n,xs,e1,bL e2 hf fun k hk=>?_,e3,e4,e5⟩,by have:=h.ff;omega,by have:=h.fm;omega,h.fu,h.m0,h.kxF (Sv.Ext.refl _ _) hf.size,h.kpF hf fun b _ h2 _=>h2⟩;rw[e1]at hk;injection hk with hk;subst hk;exact e5
theorem jN(h:RAt w0 B0 w r R S σ fuel (f+1) kd m):Calls Tryz.prog 103 #[.pointer (some ⟨r,0,none⟩)] w fun e w'=>e=.returned (.tuple #[])∧RAt w0 B0 w' r R S σ fuel f kd m∧Fr (fun k=>k=r) w w':=by
 have ZF:=h.ff;have NO:=h.fu;have hb:=h.blk;refine(Eh hb (by omega) (by omega) (by omega)).mono ?_;rintro e w' ⟨he,h1,h2⟩;rw[show(fuel:Int)-((f+1:Nat):Int)+1=(fuel:Int)-f by omega]at h1;exact⟨he,h.stepTo h1 h2,h2⟩
theorem g9(h:RAt w0 B0 w r R S σ fuel 0 kd m):Calls Tryz.prog 103 #[.pointer (some ⟨r,0,none⟩)] w fun e w'=>e=bZ 18∧Bs w0 B0 R w':=by
 refine(TT h.blk (by omega)).mono ?_;rintro e w' ⟨he,h1⟩;exact⟨he,(h.next h1 h.B).bs⟩
theorem zU{d:Nat}(h:RAt w0 B0 w r R S σ fuel f kd m){e:Ex}{x:Nd}(hx:EV w0 B0 aS e x)(hk:KV w0 B0 d x):
  Calls Tryz.prog 126 #[.pointer (some ⟨r,0,none⟩),.agg #[.int .u8 x.k,.int .i64 x.num,.string x.nm,.slice x.A x.n x.cap]] w fun en w'=>uG w0 B0 w r R S σ fuel kd m (j9 σ.look e f) en w':=by
 have Ro:=h.blk.lt;have h1:∀w1,Below w.heap.size w w1->RAt w0 B0 w1 r R S σ fuel f kd m:=fun w1 hb=>h.next hb h.B
 have hB:=h.B;have HH:=aA h1;have hst:=h.st;cases f with
 |zero=>
  have HS:=aA (fun w1 hb=>g9 (h1 w1 hb));show Calls _ _ _ _ fun en w'=>en=bZ 18∧Bs w0 B0 R w'
  clear h h1 hx hk HH;obtain⟨k,num,nm,A,n,cap⟩:=x;unfold bZ at *;dsimp only;go_enter Tryz.func126,Tryz.ntmps126;go_wp2_with fail;refine(HS.out _ (by go_grown)).mono ?_;rintro en w2 ⟨rfl,hb2⟩;have aP:=aA hb2;clear hb2;go_wp2_with fail;exact⟨rfl,rfl,aP.out⟩
 |succ f=>
  have HS:=aA (fun w1 hb=>jN (h1 w1 hb));have HT:=aA (fun W(hW:RAt w0 B0 W r R S σ fuel f kd m) W' Pm=>UD (aH _) hW.lk e x (hx.upS hW.base hW.B) (hk.upS hW.base hW.B) W' Pm);have HF:=aA (fun(y:Int)(hy:y≠0) W=>kJ (.pointer (some ⟨r,0,none⟩)) y hy W);have HC:=aA (fun W=>kI (.pointer (some ⟨r,0,none⟩)) W);unfold j9;dsimp only;obtain⟨q,hq⟩:∃q,aX σ.look e=q:=⟨_,rfl⟩;rw[hq]at HT⊢;obtain⟨v,er⟩:=q;dsimp only at *;obtain⟨rb,hrb⟩:∃rb,decide (v≠0)=rb:=⟨_,rfl⟩;rw[hrb]at HT⊢;obtain⟨qr,hqr⟩:∃qr:Except Int (Bool×Nat),(if er≠0 then .error er else .ok (rb,f))=qr:=⟨_,rfl⟩;rw[hqr];have Cu:=aA hqr;clear h h1 hx hk hq hrb hqr;unfold bZ at HF;obtain⟨k,num,nm,A,n,cap⟩:=x;dsimp only at *;go_enter Tryz.func126,Tryz.ntmps126;go_upto_region 1 with fail;refine aB ?_;intro wa bP;have lP:Below w.heap.size w wa:=(by rw[bP];go_grown);have K1:Blk wa w.heap.size 26 #[.int .u8 k,.int .i64 num,.string nm,.slice A n cap]:=(by rw[bP];exact aQ);have RY:=aA K1;have zH:=aA lP;clear bP lP K1;go_wp2_with fail;refine(HS.out wa zH.out).mono ?_;rintro en w1 ⟨rfl,hr1,U6⟩;have a9:=aA (U6.blk RY.out (by omega));have rC:=aA hr1;have iL:=aA U6;have aO:Hid (Below w1.heap.size w1 w1):=aA (aM _ _);have fL:=aA hr1.blk;have lI:Hid (w.heap.size<=w1.heap.size):=aA (fC zH.out.size U6.size);clear hr1 U6 HS
  go_wp2_with fail;obtain⟨V,Q,M,st,ent,RX⟩:=R;unfold Rn.cells at fL;dsimp only at fL HT hst;have K2:=fL;refine gJ (by kernel_rfl) (by kernel_rfl) ?_;intro W hW;have AM:Nonempty (JE W):=⟨⟨W,aM _ _⟩⟩;have IJ:=aA (fun z=>Below.next (show Below w1.heap.size w1 W by rw[hW];exact aO.out) (dM W z));have YN:=aA (fun z=>(show Below w1.heap.size w1 (grow W z) by rw[<-hW];exact dM W z));have Z_1:=fun z=>(a9.out.next (w':=grow W z) (by rw[<-hW];exact dM W z)).cell;have Z_2:=fun z=>(K2.out.next (w':=grow W z) (by rw[<-hW];exact dM W z)).cell;have HW:=aA hW;clear hW
  repeat (go_big_quiet_step ((first|(go_at_call 153;with_reducible exact gS (HT.out _ rC.out _ (IJ.out _))))))
  refine wpQuiet_nil ?_;rintro _ ⟨z,rfl⟩;have aP:=aA (IJ.out z);have zK:=aA (YN.out z);clear Z_1 Z_2 IJ YN;generalize grow W z=w2 at *;clear HW AM;by_cases h0:er=0
  ·subst h0
   go_wp2_with fail;refine(HC.out w2).mono ?_;rintro en w3 ⟨rfl,rfl⟩;go_wp2_with fail;go_ret;rw[<-Cu.out];exact⟨rfl,rC.out.next zK.out rC.out.B,((Fr.of zH.out).trans (iL.out.mono fun k hk=>.inr (.inl hk))).next zK.out⟩
  ·go_wp2_with fail
   refine(HF.out er h0 w2).mono ?_;rintro en w3 ⟨rfl,rfl⟩;go_wp2_with fail;rw[<-Cu.out,if_pos h0];exact⟨rfl,rfl,(rC.out.next zK.out rC.out.B).bs⟩
def RunP(w0:World)(B0:Nat)(w:World)(r:Nat)(R:Rn)(S:Sv)(fuel:Nat)(q:Except Int (PSt×Nat))(en:Ending)(w':World):Prop:=match q with
 |.error x=>en=bZ x∧Bs w0 B0 R w'
 |.ok p=>en=.returned (.tuple #[])∧∃S' kd' m',RAt w0 B0 w' r R S' p.1 fuel p.2 kd' m'∧S.Ext S' w∧Fr (RO S R r) w w'
theorem RO.fr{S S':Sv}{w' w'':World}(h:S.Ext S' w)(h1:Fr (RO S R r) w w')(h2:Fr (RO S' R r) w' w''):Fr (RO S R r) w w'':=
 ⟨h2.os.trans h1.os,h2.tape.trans h1.tape,h2.output.trans h1.output,fC h1.size h2.size,fun k hk ho=>(h2.block k (dX hk h1.size) (fun hn=>ho (by unfold RO at *;rwa [h.2 k hk]at hn))).trans (h1.block k hk ho)⟩
theorem RunP.pre{S':Sv}{q:Except Int (PSt×Nat)}{en:Ending}{w'':World}(hx:S.Ext S' w)(hf:Fr (RO S R r) w w')(h:RunP w0 B0 w' r R S' fuel q en w''):RunP w0 B0 w r R S fuel q en w'':=by
 cases q with
 |error x=>exact h
 |ok p=>
  obtain⟨h1,S2,kd2,m2,h2,h3,h4⟩:=h;exact⟨h1,S2,kd2,m2,h2,hx.trans h3 hf.size,RO.fr hx hf h4⟩
theorem J0{d:Nat}(h:RAt w0 B0 w r R S σ fuel f kd m){e:Ex}{x:Nd}(hx:EV w0 B0 aS e x)(hk:KV w0 B0 d x)(want:Bool):
  Calls Tryz.prog 127 #[.pointer (some ⟨r,0,none⟩),.agg #[.int .u8 x.k,.int .i64 x.num,.string x.nm,.slice x.A x.n x.cap],.bool want] w fun en w'=>RunP w0 B0 w r R S fuel (bF e want σ f) en w':=by
 have h1:∀w1,Below w.heap.size w w1->RAt w0 B0 w1 r R S σ fuel f kd m:=fun w1 hb=>h.next hb h.B
 have HH:=aA (fun w1 hb=>zU (h1 w1 hb) hx hk);have HF:=aA (Y4 15 (by decide));unfold bF;rw[nT];obtain⟨q,hq⟩:∃q,j9 σ.look e f=q:=⟨_,rfl⟩;rw[hq]at HH⊢;clear h h1 hx hk hq;obtain⟨k,num,nm,A,n,cap⟩:=x;dsimp only at *;cases q with
 |error y=>
  unfold uG bZ at HH;dsimp only at HH;go_enter Tryz.func127,Tryz.ntmps127;go_wp2_with fail;refine(HH.out _ (by go_grown)).mono ?_;rintro en w2 ⟨rfl,hb2⟩;have aP:=aA hb2;clear hb2;go_wp2_with fail;exact⟨rfl,rfl,aP.out⟩
 |ok b=>
  unfold uG at HH;dsimp only at HH;obtain⟨b,f'⟩:=b;dsimp only at *;unfold bZ at HF;go_enter Tryz.func127,Tryz.ntmps127;go_upto_region 1 with fail;refine aB ?_;intro wa bP;have lP:Below w.heap.size w wa:=(by rw[bP];go_grown);have K1:Blk wa w.heap.size 26 #[.int .u8 k,.int .i64 num,.string nm,.slice A n cap]:=(by rw[bP];exact aQ);have zH:=aA lP;clear bP lP;obtain⟨aL,aJ,aK⟩:=K1.open_;clear K1;go_wp2_with fail;refine(HH.out _ zH.out).mono ?_;rintro en w2 ⟨rfl,kF,iJ⟩;have nJ:=aA kF;have lG:=aA iJ;clear kF iJ aJ aL aK;cases b<;>cases want
  all_goals
   go_wp2_with fail
   first
    |(refine bodyPost_end (results_none rfl _ _ _) rfl ?_
      exact RunP.pre (Sv.Ext.refl _ _) (Fr.of zH.out) ⟨rfl,S,kd,m,nJ.out,Sv.Ext.refl _ _,lG.out⟩)
    |(refine(HF.out _).mono ?_
      rintro en w3 ⟨rfl,rfl⟩;go_wp2_with fail;exact⟨rfl,rfl,nJ.out.bs⟩)
end
end Go.Proofs.YtakfdnnlhjhcfaaGreatDoor
