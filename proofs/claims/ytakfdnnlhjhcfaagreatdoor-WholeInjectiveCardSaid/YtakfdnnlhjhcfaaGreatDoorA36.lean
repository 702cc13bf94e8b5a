/- Part of the proof. -/
import Derived.Test.YtakfdnnlhjhcfaaGreatDoorA35
set_option linter.unusedVariables false
set_option linter.unusedSimpArgs false
set_option maxRecDepth 100000
set_option maxHeartbeats 8000000
namespace Go.Proofs.YtakfdnnlhjhcfaaGreatDoor
open Go.RowKit Bk
def WO(w:World)(B:Nat)(nm:ByteArray)(z:Nd):Prop:=∃d,KV w B d z∧AllD w B (xL nm) d z
def RJ(w:World)(B:Nat)(x:Nd):Prop:=
 x.k≠56∧(x.k=40∨x.k=41∨x.k=42->∀y z,Kid w B x 0 y->Kid w B x 1 z->lT w B y.nm y∧WO w B y.nm z)∧
 (x.k=43->∀y z,Kid w B x 0 y->Kid w B x 1 z->lT w B y.nm y∧lT w B z.nm y∧lT w B y.nm z∧lT w B z.nm z)∧
 (x.k=44∨x.k=45->∀y,Kid w B x 0 y->lT w B y.nm y∧lT w B x.nm y)∧
 (x.k=46∨x.k=47∨x.k=48∨x.k=49->∀y,Kid w B x 0 y->lT w B y.nm y)∧
 (x.k=50∨x.k=51->∀i j y z,i<j->j<x.n->Kid w B x i y->Kid w B x j z->(y.nm.toList==z.nm.toList)=false)
theorem RJ.none{w:World}{B:Nat}{x:Nd}(h:x.k<40∨51<x.k)(h2:x.k≠56):RJ w B x:=⟨h2,fun h=>by omega,fun h=>by omega,fun h=>by omega,fun h=>by omega,fun h=>by omega⟩
section
variable{w:World}{B:Nat}(bG:B<=w.heap.size)(d:Nat)(hd:d<=5000)(x:Nd)(hx:KV w B (d+1) x)(hs:Sm w B (d+1) x)(w':World)(hb:Below B w w')
include bG hd hx hs hb
omit hd in
theorem D1(h:x.k<40∨x.k=54∨x.k=55∨x.k=57):Calls Tryz.prog 111 #[.agg #[.int .u8 x.k,.int .i64 x.num,.string x.nm,.slice x.A x.n x.cap]] w' fun en w''=>(∃nm err,en=.returned (.tuple #[.string nm,.int .i64 err])∧(err=0->RJ w B x))∧Below w'.heap.size w' w'':=by
 have hrj:RJ w B x:=RJ.none (by omega) (by omega);have HB:=aA hb;have hn2:=hs.1;obtain⟨k,num,nm,A,n,cap⟩:=x;dsimp only at *;clear hx hs hb;have k56:(k==56)=false:=bqN.2 (by omega);have k40:(k==40)=false:=bqN.2 (by omega);have k41:(k==41)=false:=bqN.2 (by omega);have k42:(k==42)=false:=bqN.2 (by omega);have k43:(k==43)=false:=bqN.2 (by omega);have So:(k==44)=false:=bqN.2 (by omega);have Jq:(k==45)=false:=bqN.2 (by omega);have k46:(k==46)=false:=bqN.2 (by omega);have k47:(k==47)=false:=bqN.2 (by omega);have k48:(k==48)=false:=bqN.2 (by omega);have k49:(k==49)=false:=bqN.2 (by omega);have k50:(k==50)=false:=bqN.2 (by omega);have k51:(k==51)=false:=bqN.2 (by omega);have k52:(k==52)=false:=bqN.2 (by omega);have k53:(k==53)=false:=bqN.2 (by omega);go_enter Tryz.func111,Tryz.ntmps111;go_upto_region 1 with fail;refine aB ?_;intro w1 aF;have aG:Below w'.heap.size w' w1:=by rw[aF];go_grown
 have K1:Blk w1 w'.heap.size 26 #[.int .u8 k,.int .i64 num,.string nm,.slice A n cap]:=by rw[aF];exact aQ
 have aO:=aA aG;have a9:=aA K1;have dU:=aA (HB.out.trans (aO.out.mono (by have:=HB.out.size;omega)));clear aF aG;obtain⟨aL,aJ,aK⟩:=K1.open_;clear K1;go_wp2_with fail;refine bodyPost_ret_by (results_tmp2 rfl _ _ _) rfl ?_;exact⟨⟨_,0,rfl,fun _=>hrj⟩,aO.out⟩
omit hd in
theorem WW(h:x.k=56)(h1:1<=x.n):Calls Tryz.prog 111 #[.agg #[.int .u8 x.k,.int .i64 x.num,.string x.nm,.slice x.A x.n x.cap]] w' fun en w''=>(∃nm err,en=.returned (.tuple #[.string nm,.int .i64 err])∧(err=0->RJ w B x))∧Below w'.heap.size w' w'':=by
 obtain⟨y,cS,_⟩:=hx.2.2.2.2.2 0 (by omega);have HB:=aA hb;have hn2:=hs.1;obtain⟨k,num,nm,A,n,cap⟩:=x;dsimp only at *;have gE:=aA cS;subst h;have j1:(0:Int)<(n:Int):=by omega
 clear hx hs hb cS;go_enter Tryz.func111,Tryz.ntmps111;go_upto_region 1 with fail;refine aB ?_;intro w1 aF;have aG:Below w'.heap.size w' w1:=by rw[aF];go_grown
 have K1:Blk w1 w'.heap.size 26 #[.int .u8 56,.int .i64 num,.string nm,.slice A n cap]:=by rw[aF];exact aQ
 have aO:=aA aG;have a9:=aA K1;have dU:=aA (HB.out.trans (aO.out.mono (by have:=HB.out.size;omega)));clear aF aG;obtain⟨aL,aJ,aK⟩:=K1.open_;clear K1;obtain⟨g,o,hA,cR,c0,c1,c2,c3⟩:=gE.out.cells dU.out;simp only at hA;subst hA;simp only[Nat.zero_mul,Nat.add_zero]at c0 c1 c2 c3;go_wp2_with fail;refine bodyPost_ret_by (results_tmp2 rfl _ _ _) rfl ?_;exact⟨⟨_,9,rfl,fun h=>by cases h⟩,aO.out⟩
theorem XB(h:x.k=40∨x.k=41∨x.k=42)(hn:x.n=2)(hp:∀y,Kid w B x 0 y->y.k=3->1<=y.n):Calls Tryz.prog 111 #[.agg #[.int .u8 x.k,.int .i64 x.num,.string x.nm,.slice x.A x.n x.cap]] w' fun en w''=>(∃nm err,en=.returned (.tuple #[.string nm,.int .i64 err])∧(err=0->RJ w B x))∧Below w'.heap.size w' w'':=by
 obtain⟨y,cS,iW⟩:=hx.2.2.2.2.2 0 (by omega);obtain⟨z,sU,G1⟩:=hx.2.2.2.2.2 1 (by omega);have o0:Hid (lT w B y.nm y->AllD w B (xL y.nm) d z->RJ w B x):=aA fun h1 h2=>⟨by omega,fun _ y' z' a b=>by obtain rfl:=Kid.one cS a;obtain rfl:=Kid.one sU b;exact⟨h1,d,G1,h2⟩,fun h=>by omega,fun h=>by omega,fun h=>by omega,fun h=>by omega⟩
 have nG:=aA (fun W hW=>x9 bG d hd y iW (hs.2 0 y (by omega) cS) (hp y cS) y.nm W hW);have Xp:=aA (fun W hW=>u9 bG d hd z G1 (hs.2 1 z (by omega) sU) y.nm W hW);have HB:=aA hb;have hn2:=hs.1;obtain⟨k,num,nm,A,n,cap⟩:=x;dsimp only at *;have gE:=aA cS;have SB:=aA sU;have j1:(0:Int)<(n:Int):=by omega
 have j2:(1:Int)<(n:Int):=by omega
 clear hx hs hb cS sU iW G1 hp hn hn2;rcases h with rfl|rfl|rfl
 ·go_enter Tryz.func111,Tryz.ntmps111
  go_upto_region 1 with fail;refine aB ?_;intro w1 aF;have aG:Below w'.heap.size w' w1:=by rw[aF];go_grown
  have K1:Blk w1 w'.heap.size 26 #[.int .u8 40,.int .i64 num,.string nm,.slice A n cap]:=by rw[aF];exact aQ
  have aO:=aA aG;have a9:=aA K1;have dU:=aA (HB.out.trans (aO.out.mono (by have:=HB.out.size;omega)));clear aF aG;obtain⟨aL,aJ,aK⟩:=K1.open_;clear K1;obtain⟨g,o,hA,cR,c0,c1,c2,c3⟩:=gE.out.cells dU.out;simp only at hA;subst hA;simp only[Nat.zero_mul,Nat.add_zero]at c0 c1 c2 c3;go_wp2_with fail;refine(nG.out w1 dU.out).mono ?_;rintro en w2 ⟨⟨r,rfl,hr⟩,hb2⟩;have HR:=aA hr;have aP:=aA (aO.out.next hb2);have bI:=aA (a9.out.next hb2);have t5:=aA (dU.out.trans (hb2.mono (by have:=dU.out.size;omega)));clear hr hb2 c0 c1 c2 c3 aL aJ aK;cases r with
  |true=>
   go_wp2_with fail;refine bodyPost_ret_by (results_tmp2 rfl _ _ _) rfl ?_;exact⟨⟨_,8,rfl,fun h=>by cases h⟩,aP.out⟩
  |false=>
   obtain⟨g',o',gF,_,c0,c1,c2,c3⟩:=SB.out.cells t5.out;simp only at gF;injection gF with gF;injection gF with e1 e2;subst e1;subst e2;simp only[Nat.one_mul]at c0 c1 c2 c3;obtain⟨aL,aJ,aK⟩:=bI.out.open_;go_wp2_with fail;refine(Xp.out w2 t5.out).mono ?_;rintro en w3 ⟨⟨r,rfl,kF⟩,aT⟩;have nJ:=aA kF;have bD:=aA (aP.out.next aT);clear kF aT c0 c1 c2 c3 aL aJ aK;cases r with
   |true=>
    go_wp2_with fail;refine bodyPost_ret_by (results_tmp2 rfl _ _ _) rfl ?_;exact⟨⟨_,8,rfl,fun h=>by cases h⟩,bD.out⟩
   |false=>
    go_wp2_with fail;refine bodyPost_ret_by (results_tmp2 rfl _ _ _) rfl ?_;exact⟨⟨_,0,rfl,fun _=>o0.out (HR.out (by trivial)) (nJ.out (by trivial))⟩,bD.out⟩
 ·go_enter Tryz.func111,Tryz.ntmps111
  go_upto_region 1 with fail;refine aB ?_;intro w1 aF;have aG:Below w'.heap.size w' w1:=by rw[aF];go_grown
  have K1:Blk w1 w'.heap.size 26 #[.int .u8 41,.int .i64 num,.string nm,.slice A n cap]:=by rw[aF];exact aQ
  have aO:=aA aG;have a9:=aA K1;have dU:=aA (HB.out.trans (aO.out.mono (by have:=HB.out.size;omega)));clear aF aG;obtain⟨aL,aJ,aK⟩:=K1.open_;clear K1;obtain⟨g,o,hA,cR,c0,c1,c2,c3⟩:=gE.out.cells dU.out;simp only at hA;subst hA;simp only[Nat.zero_mul,Nat.add_zero]at c0 c1 c2 c3;go_wp2_with fail;refine(nG.out w1 dU.out).mono ?_;rintro en w2 ⟨⟨r,rfl,hr⟩,hb2⟩;have HR:=aA hr;have aP:=aA (aO.out.next hb2);have bI:=aA (a9.out.next hb2);have t5:=aA (dU.out.trans (hb2.mono (by have:=dU.out.size;omega)));clear hr hb2 c0 c1 c2 c3 aL aJ aK;cases r with
  |true=>
   go_wp2_with fail;refine bodyPost_ret_by (results_tmp2 rfl _ _ _) rfl ?_;exact⟨⟨_,8,rfl,fun h=>by cases h⟩,aP.out⟩
  |false=>
   obtain⟨g',o',gF,_,c0,c1,c2,c3⟩:=SB.out.cells t5.out;simp only at gF;injection gF with gF;injection gF with e1 e2;subst e1;subst e2;simp only[Nat.one_mul]at c0 c1 c2 c3;obtain⟨aL,aJ,aK⟩:=bI.out.open_;go_wp2_with fail;refine(Xp.out w2 t5.out).mono ?_;rintro en w3 ⟨⟨r,rfl,kF⟩,aT⟩;have nJ:=aA kF;have bD:=aA (aP.out.next aT);clear kF aT c0 c1 c2 c3 aL aJ aK;cases r with
   |true=>
    go_wp2_with fail;refine bodyPost_ret_by (results_tmp2 rfl _ _ _) rfl ?_;exact⟨⟨_,8,rfl,fun h=>by cases h⟩,bD.out⟩
   |false=>
    go_wp2_with fail;refine bodyPost_ret_by (results_tmp2 rfl _ _ _) rfl ?_;exact⟨⟨_,0,rfl,fun _=>o0.out (HR.out (by trivial)) (nJ.out (by trivial))⟩,bD.out⟩
 ·go_enter Tryz.func111,Tryz.ntmps111
  go_upto_region 1 with fail;refine aB ?_;intro w1 aF;have aG:Below w'.heap.size w' w1:=by rw[aF];go_grown
  have K1:Blk w1 w'.heap.size 26 #[.int .u8 42,.int .i64 num,.string nm,.slice A n cap]:=by rw[aF];exact aQ
  have aO:=aA aG;have a9:=aA K1;have dU:=aA (HB.out.trans (aO.out.mono (by have:=HB.out.size;omega)));clear aF aG;obtain⟨aL,aJ,aK⟩:=K1.open_;clear K1;obtain⟨g,o,hA,cR,c0,c1,c2,c3⟩:=gE.out.cells dU.out;simp only at hA;subst hA;simp only[Nat.zero_mul,Nat.add_zero]at c0 c1 c2 c3;go_wp2_with fail;refine(nG.out w1 dU.out).mono ?_;rintro en w2 ⟨⟨r,rfl,hr⟩,hb2⟩;have HR:=aA hr;have aP:=aA (aO.out.next hb2);have bI:=aA (a9.out.next hb2);have t5:=aA (dU.out.trans (hb2.mono (by have:=dU.out.size;omega)));clear hr hb2 c0 c1 c2 c3 aL aJ aK;cases r with
  |true=>
   go_wp2_with fail;refine bodyPost_ret_by (results_tmp2 rfl _ _ _) rfl ?_;exact⟨⟨_,8,rfl,fun h=>by cases h⟩,aP.out⟩
  |false=>
   obtain⟨g',o',gF,_,c0,c1,c2,c3⟩:=SB.out.cells t5.out;simp only at gF;injection gF with gF;injection gF with e1 e2;subst e1;subst e2;simp only[Nat.one_mul]at c0 c1 c2 c3;obtain⟨aL,aJ,aK⟩:=bI.out.open_;go_wp2_with fail;refine(Xp.out w2 t5.out).mono ?_;rintro en w3 ⟨⟨r,rfl,kF⟩,aT⟩;have nJ:=aA kF;have bD:=aA (aP.out.next aT);clear kF aT c0 c1 c2 c3 aL aJ aK;cases r with
   |true=>
    go_wp2_with fail;refine bodyPost_ret_by (results_tmp2 rfl _ _ _) rfl ?_;exact⟨⟨_,8,rfl,fun h=>by cases h⟩,bD.out⟩
   |false=>
    go_wp2_with fail;refine bodyPost_ret_by (results_tmp2 rfl _ _ _) rfl ?_;exact⟨⟨_,0,rfl,fun _=>o0.out (HR.out (by trivial)) (nJ.out (by trivial))⟩,bD.out⟩
theorem WX(h:x.k=44∨x.k=45)(hn:x.n=1)(hp:∀y,Kid w B x 0 y->y.k=3->1<=y.n):Calls Tryz.prog 111 #[.agg #[.int .u8 x.k,.int .i64 x.num,.string x.nm,.slice x.A x.n x.cap]] w' fun en w''=>(∃nm err,en=.returned (.tuple #[.string nm,.int .i64 err])∧(err=0->RJ w B x))∧Below w'.heap.size w' w'':=by
 obtain⟨y,cS,iW⟩:=hx.2.2.2.2.2 0 (by omega);have wP:=aA (fun g0 c0 W(hW:Below B w W) hN(hg:g0<W.heap.size)=>z5 bG d hd x hx hs (fun i y' hi hk=>by obtain rfl:i=0:=(by omega);exact hp y' hk) [y.nm,x.nm] (aH 2) g0 c0 W hW hN hg);have o0:Hid ((∀i y' s,i<x.n->Kid w B x i y'->s∈ [y.nm,x.nm]->lT w B s y')->RJ w B x):=aA fun h1=>⟨by omega,fun h=>by omega,fun h=>by omega,fun _ y' a=>by obtain rfl:=Kid.one cS a;exact⟨h1 0 y _ (by omega) cS (by simp),h1 0 y _ (by omega) cS (by simp)⟩,fun h=>by omega,fun h=>by omega⟩
 have HB:=aA hb;have hn2:=hs.1;obtain⟨k,num,nm,A,n,cap⟩:=x;dsimp only at *;have gE:=aA cS;have j1:(0:Int)<(n:Int):=by omega
 have jn:0<n:=by omega
 clear hx hs hb cS iW hp hn hn2;rcases h with rfl|rfl
 ·go_enter Tryz.func111,Tryz.ntmps111
  go_upto_region 1 with fail;refine aB ?_;intro w1 aF;have aG:Below w'.heap.size w' w1:=by rw[aF];go_grown
  have K1:Blk w1 w'.heap.size 26 #[.int .u8 44,.int .i64 num,.string nm,.slice A n cap]:=by rw[aF];exact aQ
  have aO:=aA aG;have a9:=aA K1;have dU:=aA (HB.out.trans (aO.out.mono (by have:=HB.out.size;omega)));clear aF aG;obtain⟨aL,aJ,aK⟩:=K1.open_;clear K1;obtain⟨g,o,hA,cR,c0,c1,c2,c3⟩:=gE.out.cells dU.out;simp only at hA;subst hA;simp only[Nat.zero_mul,Nat.add_zero]at c0 c1 c2 c3;have oR:g<w1.heap.size:=by have:=dU.out.size;omega
  clear c0 c1 c3;go_upto_region 15 with fail;clear aL aJ aK;refine wp_region_held_drew (S:=fun W=>Below w1.heap.size w1 W) (by kernel_rfl) ((aM _ _).drew) (fun hH=>?_);refine aE ?_;intro wa bP;replace hH:Below w1.heap.size w1 wa:=by rw[bP];exact(aM _ _).drew
  clear bP;refine aW 0 (v:=?_) rfl hH ?_;(try simp only[PU,aD])
  refine cH 1 (v:=?_) rfl ?hy hH ?_
  case hy=>(intro bW aN;obtain⟨aL,aJ,aK⟩:=(a9.out.next aN).open_;clear aN;go_simp;try with_reducible rfl)
  (try simp only[PU,aD])
  refine aW 2 (v:=?_) rfl hH ?_;(try simp only[PU,aD])
  refine cH 3 (v:=?_) rfl ?hy hH ?_
  case hy=>(intro bW aN;obtain⟨aL,aJ,aK⟩:=(a9.out.next aN).open_;clear aN;go_simp;try with_reducible rfl)
  (try simp only[PU,aD])
  refine aW 4 (v:=?_) rfl hH ?_;(try simp only[PU,aD])
  refine aW 5 (v:=?_) rfl hH ?_;(try simp only[PU,aD])
  refine cH 6 (v:=?_) rfl ?hy hH ?_
  case hy=>(intro bW aN;have t2:=(aN.cell (p:=⟨g,o+2,none⟩) oR).trans c2;clear aN;go_simp;try with_reducible rfl)
  (try simp only[PU,aD])
  refine aW 7 (v:=?_) rfl hH ?_;(try simp only[PU,aD])
  refine cH 8 (v:=?_) rfl ?hy hH ?_
  case hy=>(intro bW aN;obtain⟨aL,aJ,aK⟩:=(a9.out.next aN).open_;clear aN;go_simp;try with_reducible rfl)
  (try simp only[PU,aD])
  refine cE 9 (by kernel_rfl) rfl (fun K hK=>?_);rw[if_pos (by rfl)];go_simp;refine hK.out _ _ (hH.next ((aM _ _).alloc (aH _) _)) (fun hH=>?_);clear hK;(try simp only[PU,aD])
  refine aE ?_;intro wb qJ;have KS:Blk wb wa.heap.size 9 #[.string y.nm,.string nm]:=by rw[qJ];exact Blk.new _ _ _
  have lP:wa.heap.size<wb.heap.size:=by rw[qJ];simp
  rw[<-qJ]at hH;have lE:=aA KS;clear qJ KS;refine cE 10 (by kernel_rfl) rfl (fun K hK=>?_);rw[if_pos (by rfl)];go_simp;refine(wP.out wa.heap.size 2 wb (dU.out.trans (hH.mono (by have:=dU.out.size;omega))) (fun j s hj=>?hnm) lP).mono ?_
  case hnm=>
   have:=lE.out.cell j;rw[this]
   match j,hj with
   |0,h=>injection h with h;subst h;rfl
   |1,h=>injection h with h;subst h;rfl
  rintro en w2 ⟨⟨Jr,r,rfl,hr⟩,hb2⟩;have HR:=aA hr;have aP:=aA (aO.out.next (hH.next hb2));refine hK.out _ _ (hH.next hb2) (fun hH=>?_);clear hK hr hb2;(try simp only[PU,aD])
  refine aW 11 (v:=?_) rfl hH ?_;(try simp only[PU,aD])
  refine aW 12 (v:=?_) rfl hH ?_;(try simp only[PU,aD])
  refine aW 13 (v:=?_) rfl hH ?_;(try simp only[PU,aD])
  refine aW 14 (v:=?_) rfl hH ?_;(try simp only[PU,aD])
  refine wpAnyH_done (by kernel_rfl) ?_ _;clear hH;go_wp2_with fail;refine bodyPost_ret_by (results_tmp2 rfl _ _ _) rfl ?_;exact⟨⟨_,_,rfl,fun h=>o0.out (HR.out h)⟩,aP.out⟩
 ·go_enter Tryz.func111,Tryz.ntmps111
  go_upto_region 1 with fail;refine aB ?_;intro w1 aF;have aG:Below w'.heap.size w' w1:=by rw[aF];go_grown
  have K1:Blk w1 w'.heap.size 26 #[.int .u8 45,.int .i64 num,.string nm,.slice A n cap]:=by rw[aF];exact aQ
  have aO:=aA aG;have a9:=aA K1;have dU:=aA (HB.out.trans (aO.out.mono (by have:=HB.out.size;omega)));clear aF aG;obtain⟨aL,aJ,aK⟩:=K1.open_;clear K1;obtain⟨g,o,hA,cR,c0,c1,c2,c3⟩:=gE.out.cells dU.out;simp only at hA;subst hA;simp only[Nat.zero_mul,Nat.add_zero]at c0 c1 c2 c3;have oR:g<w1.heap.size:=by have:=dU.out.size;omega
  clear c0 c1 c3;go_upto_region 15 with fail;clear aL aJ aK;refine wp_region_held_drew (S:=fun W=>Below w1.heap.size w1 W) (by kernel_rfl) ((aM _ _).drew) (fun hH=>?_);refine aE ?_;intro wa bP;replace hH:Below w1.heap.size w1 wa:=by rw[bP];exact(aM _ _).drew
  clear bP;refine aW 0 (v:=?_) rfl hH ?_;(try simp only[PU,aD])
  refine cH 1 (v:=?_) rfl ?hy hH ?_
  case hy=>(intro bW aN;obtain⟨aL,aJ,aK⟩:=(a9.out.next aN).open_;clear aN;go_simp;try with_reducible rfl)
  (try simp only[PU,aD])
  refine aW 2 (v:=?_) rfl hH ?_;(try simp only[PU,aD])
  refine cH 3 (v:=?_) rfl ?hy hH ?_
  case hy=>(intro bW aN;obtain⟨aL,aJ,aK⟩:=(a9.out.next aN).open_;clear aN;go_simp;try with_reducible rfl)
  (try simp only[PU,aD])
  refine aW 4 (v:=?_) rfl hH ?_;(try simp only[PU,aD])
  refine aW 5 (v:=?_) rfl hH ?_;(try simp only[PU,aD])
  refine cH 6 (v:=?_) rfl ?hy hH ?_
  case hy=>(intro bW aN;have t2:=(aN.cell (p:=⟨g,o+2,none⟩) oR).trans c2;clear aN;go_simp;try with_reducible rfl)
  (try simp only[PU,aD])
  refine aW 7 (v:=?_) rfl hH ?_;(try simp only[PU,aD])
  refine cH 8 (v:=?_) rfl ?hy hH ?_
  case hy=>(intro bW aN;obtain⟨aL,aJ,aK⟩:=(a9.out.next aN).open_;clear aN;go_simp;try with_reducible rfl)
  (try simp only[PU,aD])
  refine cE 9 (by kernel_rfl) rfl (fun K hK=>?_);rw[if_pos (by rfl)];go_simp;refine hK.out _ _ (hH.next ((aM _ _).alloc (aH _) _)) (fun hH=>?_);clear hK;(try simp only[PU,aD])
  refine aE ?_;intro wb qJ;have KS:Blk wb wa.heap.size 9 #[.string y.nm,.string nm]:=by rw[qJ];exact Blk.new _ _ _
  have lP:wa.heap.size<wb.heap.size:=by rw[qJ];simp
  rw[<-qJ]at hH;have lE:=aA KS;clear qJ KS;refine cE 10 (by kernel_rfl) rfl (fun K hK=>?_);rw[if_pos (by rfl)];go_simp;refine(wP.out wa.heap.size 2 wb (dU.out.trans (hH.mono (by have:=dU.out.size;omega))) (fun j s hj=>?hnm) lP).mono ?_
  case hnm=>
   have:=lE.out.cell j;rw[this]
   match j,hj with
   |0,h=>injection h with h;subst h;rfl
   |1,h=>injection h with h;subst h;rfl
  rintro en w2 ⟨⟨Jr,r,rfl,hr⟩,hb2⟩;have HR:=aA hr;have aP:=aA (aO.out.next (hH.next hb2));refine hK.out _ _ (hH.next hb2) (fun hH=>?_);clear hK hr hb2;(try simp only[PU,aD])
  refine aW 11 (v:=?_) rfl hH ?_;(try simp only[PU,aD])
  refine aW 12 (v:=?_) rfl hH ?_;(try simp only[PU,aD])
  refine aW 13 (v:=?_) rfl hH ?_;(try simp only[PU,aD])
  refine aW 14 (v:=?_) rfl hH ?_;(try simp only[PU,aD])
  refine wpAnyH_done (by kernel_rfl) ?_ _;clear hH;go_wp2_with fail;refine bodyPost_ret_by (results_tmp2 rfl _ _ _) rfl ?_;exact⟨⟨_,_,rfl,fun h=>o0.out (HR.out h)⟩,aP.out⟩
theorem WZ(h:x.k=46∨x.k=47∨x.k=48∨x.k=49)(hn:x.n=1)(hp:∀y,Kid w B x 0 y->y.k=3->1<=y.n):Calls Tryz.prog 111 #[.agg #[.int .u8 x.k,.int .i64 x.num,.string x.nm,.slice x.A x.n x.cap]] w' fun en w''=>(∃nm err,en=.returned (.tuple #[.string nm,.int .i64 err])∧(err=0->RJ w B x))∧Below w'.heap.size w' w'':=by
 obtain⟨y,cS,iW⟩:=hx.2.2.2.2.2 0 (by omega);have wP:=aA (fun g0 c0 W(hW:Below B w W) hN(hg:g0<W.heap.size)=>z5 bG d hd x hx hs (fun i y' hi hk=>by obtain rfl:i=0:=(by omega);exact hp y' hk) [y.nm] (Nat.le_succ 1) g0 c0 W hW hN hg);have o0:Hid ((∀i y' s,i<x.n->Kid w B x i y'->s∈ [y.nm]->lT w B s y')->RJ w B x):=aA fun h1=>⟨by omega,fun h=>by omega,fun h=>by omega,fun h=>by omega,fun _ y' a=>by obtain rfl:=Kid.one cS a;exact h1 0 y _ (by omega) cS (by simp),fun h=>by omega⟩
 have HB:=aA hb;have hn2:=hs.1;obtain⟨k,num,nm,A,n,cap⟩:=x;dsimp only at *;have gE:=aA cS;have j1:(0:Int)<(n:Int):=by omega
 have jn:0<n:=by omega
 clear hx hs hb cS iW hp hn hn2;rcases h with rfl|rfl|rfl|rfl
 ·go_enter Tryz.func111,Tryz.ntmps111
  go_upto_region 1 with fail;refine aB ?_;intro w1 aF;have aG:Below w'.heap.size w' w1:=by rw[aF];go_grown
  have K1:Blk w1 w'.heap.size 26 #[.int .u8 46,.int .i64 num,.string nm,.slice A n cap]:=by rw[aF];exact aQ
  have aO:=aA aG;have a9:=aA K1;have dU:=aA (HB.out.trans (aO.out.mono (by have:=HB.out.size;omega)));clear aF aG;obtain⟨aL,aJ,aK⟩:=K1.open_;clear K1;obtain⟨g,o,hA,cR,c0,c1,c2,c3⟩:=gE.out.cells dU.out;simp only at hA;subst hA;simp only[Nat.zero_mul,Nat.add_zero]at c0 c1 c2 c3;have oR:g<w1.heap.size:=by have:=dU.out.size;omega
  clear c0 c1 c3;go_upto_region 20 with fail;clear aL aJ aK;refine wp_region_held_drew (S:=fun W=>Below w1.heap.size w1 W) (by kernel_rfl) ((aM _ _).drew) (fun hH=>?_);refine aE ?_;intro wa bP;replace hH:Below w1.heap.size w1 wa:=by rw[bP];exact(aM _ _).drew
  clear bP;refine aW 0 (v:=?_) rfl hH ?_;(try simp only[PU,aD])
  refine cH 1 (v:=?_) rfl ?hy hH ?_
  case hy=>(intro bW aN;obtain⟨aL,aJ,aK⟩:=(a9.out.next aN).open_;clear aN;go_simp;try with_reducible rfl)
  (try simp only[PU,aD])
  refine aW 2 (v:=?_) rfl hH ?_;(try simp only[PU,aD])
  refine cH 3 (v:=?_) rfl ?hy hH ?_
  case hy=>(intro bW aN;obtain⟨aL,aJ,aK⟩:=(a9.out.next aN).open_;clear aN;go_simp;try with_reducible rfl)
  (try simp only[PU,aD])
  refine aW 4 (v:=?_) rfl hH ?_;(try simp only[PU,aD])
  refine aW 5 (v:=?_) rfl hH ?_;(try simp only[PU,aD])
  refine cH 6 (v:=?_) rfl ?hy hH ?_
  case hy=>(intro bW aN;have t2:=(aN.cell (p:=⟨g,o+2,none⟩) oR).trans c2;clear aN;go_simp;try with_reducible rfl)
  (try simp only[PU,aD])
  refine cE 7 (by kernel_rfl) rfl (fun K hK=>?_);rw[if_pos (by rfl)];go_simp;refine hK.out _ _ (hH.next ((aM _ _).alloc (aH _) _)) (fun hH=>?_);clear hK;(try simp only[PU,aD])
  refine aE ?_;intro wb qJ;have KS:Blk wb wa.heap.size 9 #[.string y.nm]:=by rw[qJ];exact Blk.new _ _ _
  have lP:wa.heap.size<wb.heap.size:=by rw[qJ];simp
  rw[<-qJ]at hH;have lE:=aA KS;clear qJ KS;refine cE 8 (by kernel_rfl) rfl (fun K hK=>?_);rw[if_pos (by rfl)];go_simp;refine(wP.out wa.heap.size 1 wb (dU.out.trans (hH.mono (by have:=dU.out.size;omega))) (fun j s hj=>?hnm) lP).mono ?_
  case hnm=>
   have:=lE.out.cell j;rw[this]
   match j,hj with
   |0,h=>injection h with h;subst h;rfl
  rintro en w2 ⟨⟨Jr,r,rfl,hr⟩,hb2⟩;have HR:=aA hr;have aP:=aA (aO.out.next (hH.next hb2));refine hK.out _ _ (hH.next hb2) (fun hH=>?_);clear hK hr hb2;(try simp only[PU,aD])
  refine aW 9 (v:=?_) rfl hH ?_;(try simp only[PU,aD])
  refine aW 10 (v:=?_) rfl hH ?_;(try simp only[PU,aD])
  refine aW 11 (v:=?_) rfl hH ?_;(try simp only[PU,aD])
  refine aW 12 (v:=?_) rfl hH ?_;(try simp only[PU,aD])
  refine wpAnyH_done (by kernel_rfl) ?_ _;clear hH;go_wp2_with fail;refine bodyPost_ret_by (results_tmp2 rfl _ _ _) rfl ?_;exact⟨⟨_,_,rfl,fun h=>o0.out (HR.out h)⟩,aP.out⟩
 ·go_enter Tryz.func111,Tryz.ntmps111
  go_upto_region 1 with fail;refine aB ?_;intro w1 aF;have aG:Below w'.heap.size w' w1:=by rw[aF];go_grown
  have K1:Blk w1 w'.heap.size 26 #[.int .u8 47,.int .i64 num,.string nm,.slice A n cap]:=by rw[aF];exact aQ
  have aO:=aA aG;have a9:=aA K1;have dU:=aA (HB.out.trans (aO.out.mono (by have:=HB.out.size;omega)));clear aF aG;obtain⟨aL,aJ,aK⟩:=K1.open_;clear K1;obtain⟨g,o,hA,cR,c0,c1,c2,c3⟩:=gE.out.cells dU.out;simp only at hA;subst hA;simp only[Nat.zero_mul,Nat.add_zero]at c0 c1 c2 c3;have oR:g<w1.heap.size:=by have:=dU.out.size;omega
  clear c0 c1 c3;go_upto_region 20 with fail;clear aL aJ aK;refine wp_region_held_drew (S:=fun W=>Below w1.heap.size w1 W) (by kernel_rfl) ((aM _ _).drew) (fun hH=>?_);refine aE ?_;intro wa bP;replace hH:Below w1.heap.size w1 wa:=by rw[bP];exact(aM _ _).drew
  clear bP;refine aW 0 (v:=?_) rfl hH ?_;(try simp only[PU,aD])
  refine cH 1 (v:=?_) rfl ?hy hH ?_
  case hy=>(intro bW aN;obtain⟨aL,aJ,aK⟩:=(a9.out.next aN).open_;clear aN;go_simp;try with_reducible rfl)
  (try simp only[PU,aD])
  refine aW 2 (v:=?_) rfl hH ?_;(try simp only[PU,aD])
  refine cH 3 (v:=?_) rfl ?hy hH ?_
  case hy=>(intro bW aN;obtain⟨aL,aJ,aK⟩:=(a9.out.next aN).open_;clear aN;go_simp;try with_reducible rfl)
  (try simp only[PU,aD])
  refine aW 4 (v:=?_) rfl hH ?_;(try simp only[PU,aD])
  refine aW 5 (v:=?_) rfl hH ?_;(try simp only[PU,aD])
  refine cH 6 (v:=?_) rfl ?hy hH ?_
  case hy=>(intro bW aN;have t2:=(aN.cell (p:=⟨g,o+2,none⟩) oR).trans c2;clear aN;go_simp;try with_reducible rfl)
  (try simp only[PU,aD])
  refine cE 7 (by kernel_rfl) rfl (fun K hK=>?_);rw[if_pos (by rfl)];go_simp;refine hK.out _ _ (hH.next ((aM _ _).alloc (aH _) _)) (fun hH=>?_);clear hK;(try simp only[PU,aD])
  refine aE ?_;intro wb qJ;have KS:Blk wb wa.heap.size 9 #[.string y.nm]:=by rw[qJ];exact Blk.new _ _ _
  have lP:wa.heap.size<wb.heap.size:=by rw[qJ];simp
  rw[<-qJ]at hH;have lE:=aA KS;clear qJ KS;refine cE 8 (by kernel_rfl) rfl (fun K hK=>?_);rw[if_pos (by rfl)];go_simp;refine(wP.out wa.heap.size 1 wb (dU.out.trans (hH.mono (by have:=dU.out.size;omega))) (fun j s hj=>?hnm) lP).mono ?_
  case hnm=>
   have:=lE.out.cell j;rw[this]
   match j,hj with
   |0,h=>injection h with h;subst h;rfl
  rintro en w2 ⟨⟨Jr,r,rfl,hr⟩,hb2⟩;have HR:=aA hr;have aP:=aA (aO.out.next (hH.next hb2));refine hK.out _ _ (hH.next hb2) (fun hH=>?_);clear hK hr hb2;(try simp only[PU,aD])
  refine aW 9 (v:=?_) rfl hH ?_;(try simp only[PU,aD])
  refine aW 10 (v:=?_) rfl hH ?_;(try simp only[PU,aD])
  refine aW 11 (v:=?_) rfl hH ?_;(try simp only[PU,aD])
  refine aW 12 (v:=?_) rfl hH ?_;(try simp only[PU,aD])
  refine wpAnyH_done (by kernel_rfl) ?_ _;clear hH;go_wp2_with fail;refine bodyPost_ret_by (results_tmp2 rfl _ _ _) rfl ?_;exact⟨⟨_,_,rfl,fun h=>o0.out (HR.out h)⟩,aP.out⟩
 ·go_enter Tryz.func111,Tryz.ntmps111
  go_upto_region 1 with fail;refine aB ?_;intro w1 aF;have aG:Below w'.heap.size w' w1:=by rw[aF];go_grown
  have K1:Blk w1 w'.heap.size 26 #[.int .u8 48,.int .i64 num,.string nm,.slice A n cap]:=by rw[aF];exact aQ
  have aO:=aA aG;have a9:=aA K1;have dU:=aA (HB.out.trans (aO.out.mono (by have:=HB.out.size;omega)));clear aF aG;obtain⟨aL,aJ,aK⟩:=K1.open_;clear K1;obtain⟨g,o,hA,cR,c0,c1,c2,c3⟩:=gE.out.cells dU.out;simp only at hA;subst hA;simp only[Nat.zero_mul,Nat.add_zero]at c0 c1 c2 c3;have oR:g<w1.heap.size:=by have:=dU.out.size;omega
  clear c0 c1 c3;go_upto_region 20 with fail;clear aL aJ aK;refine wp_region_held_drew (S:=fun W=>Below w1.heap.size w1 W) (by kernel_rfl) ((aM _ _).drew) (fun hH=>?_);refine aE ?_;intro wa bP;replace hH:Below w1.heap.size w1 wa:=by rw[bP];exact(aM _ _).drew
  clear bP;refine aW 0 (v:=?_) rfl hH ?_;(try simp only[PU,aD])
  refine cH 1 (v:=?_) rfl ?hy hH ?_
  case hy=>(intro bW aN;obtain⟨aL,aJ,aK⟩:=(a9.out.next aN).open_;clear aN;go_simp;try with_reducible rfl)
  (try simp only[PU,aD])
  refine aW 2 (v:=?_) rfl hH ?_;(try simp only[PU,aD])
  refine cH 3 (v:=?_) rfl ?hy hH ?_
  case hy=>(intro bW aN;obtain⟨aL,aJ,aK⟩:=(a9.out.next aN).open_;clear aN;go_simp;try with_reducible rfl)
  (try simp only[PU,aD])
  refine aW 4 (v:=?_) rfl hH ?_;(try simp only[PU,aD])
  refine aW 5 (v:=?_) rfl hH ?_;(try simp only[PU,aD])
  refine cH 6 (v:=?_) rfl ?hy hH ?_
  case hy=>(intro bW aN;have t2:=(aN.cell (p:=⟨g,o+2,none⟩) oR).trans c2;clear aN;go_simp;try with_reducible rfl)
  (try simp only[PU,aD])
  refine cE 7 (by kernel_rfl) rfl (fun K hK=>?_);rw[if_pos (by rfl)];go_simp;refine hK.out _ _ (hH.next ((aM _ _).alloc (aH _) _)) (fun hH=>?_);clear hK;(try simp only[PU,aD])
  refine aE ?_;intro wb qJ;have KS:Blk wb wa.heap.size 9 #[.string y.nm]:=by rw[qJ];exact Blk.new _ _ _
  have lP:wa.heap.size<wb.heap.size:=by rw[qJ];simp
  rw[<-qJ]at hH;have lE:=aA KS;clear qJ KS;refine cE 8 (by kernel_rfl) rfl (fun K hK=>?_);rw[if_pos (by rfl)];go_simp;refine(wP.out wa.heap.size 1 wb (dU.out.trans (hH.mono (by have:=dU.out.size;omega))) (fun j s hj=>?hnm) lP).mono ?_
  case hnm=>
   have:=lE.out.cell j;rw[this]
   match j,hj with
   |0,h=>injection h with h;subst h;rfl
  rintro en w2 ⟨⟨Jr,r,rfl,hr⟩,hb2⟩;have HR:=aA hr;have aP:=aA (aO.out.next (hH.next hb2));refine hK.out _ _ (hH.next hb2) (fun hH=>?_);clear hK hr hb2;(try simp only[PU,aD])
  refine aW 9 (v:=?_) rfl hH ?_;(try simp only[PU,aD])
  refine aW 10 (v:=?_) rfl hH ?_;(try simp only[PU,aD])
  refine aW 11 (v:=?_) rfl hH ?_;(try simp only[PU,aD])
  refine aW 12 (v:=?_) rfl hH ?_;(try simp only[PU,aD])
  refine wpAnyH_done (by kernel_rfl) ?_ _;clear hH;go_wp2_with fail;refine bodyPost_ret_by (results_tmp2 rfl _ _ _) rfl ?_;exact⟨⟨_,_,rfl,fun h=>o0.out (HR.out h)⟩,aP.out⟩
 ·go_enter Tryz.func111,Tryz.ntmps111
  go_upto_region 1 with fail;refine aB ?_;intro w1 aF;have aG:Below w'.heap.size w' w1:=by rw[aF];go_grown
  have K1:Blk w1 w'.heap.size 26 #[.int .u8 49,.int .i64 num,.string nm,.slice A n cap]:=by rw[aF];exact aQ
  have aO:=aA aG;have a9:=aA K1;have dU:=aA (HB.out.trans (aO.out.mono (by have:=HB.out.size;omega)));clear aF aG;obtain⟨aL,aJ,aK⟩:=K1.open_;clear K1;obtain⟨g,o,hA,cR,c0,c1,c2,c3⟩:=gE.out.cells dU.out;simp only at hA;subst hA;simp only[Nat.zero_mul,Nat.add_zero]at c0 c1 c2 c3;have oR:g<w1.heap.size:=by have:=dU.out.size;omega
  clear c0 c1 c3;go_upto_region 20 with fail;clear aL aJ aK;refine wp_region_held_drew (S:=fun W=>Below w1.heap.size w1 W) (by kernel_rfl) ((aM _ _).drew) (fun hH=>?_);refine aE ?_;intro wa bP;replace hH:Below w1.heap.size w1 wa:=by rw[bP];exact(aM _ _).drew
  clear bP;refine aW 0 (v:=?_) rfl hH ?_;(try simp only[PU,aD])
  refine cH 1 (v:=?_) rfl ?hy hH ?_
  case hy=>(intro bW aN;obtain⟨aL,aJ,aK⟩:=(a9.out.next aN).open_;clear aN;go_simp;try with_reducible rfl)
  (try simp only[PU,aD])
  refine aW 2 (v:=?_) rfl hH ?_;(try simp only[PU,aD])
  refine cH 3 (v:=?_) rfl ?hy hH ?_
  case hy=>(intro bW aN;obtain⟨aL,aJ,aK⟩:=(a9.out.next aN).open_;clear aN;go_simp;try with_reducible rfl)
  (try simp only[PU,aD])
  refine aW 4 (v:=?_) rfl hH ?_;(try simp only[PU,aD])
  refine aW 5 (v:=?_) rfl hH ?_;(try simp only[PU,aD])
  refine cH 6 (v:=?_) rfl ?hy hH ?_
  case hy=>(intro bW aN;have t2:=(aN.cell (p:=⟨g,o+2,none⟩) oR).trans c2;clear aN;go_simp;try with_reducible rfl)
  (try simp only[PU,aD])
  refine cE 7 (by kernel_rfl) rfl (fun K hK=>?_);rw[if_pos (by rfl)];go_simp;refine hK.out _ _ (hH.next ((aM _ _).alloc (aH _) _)) (fun hH=>?_);clear hK;(try simp only[PU,aD])
  refine aE ?_;intro wb qJ;have KS:Blk wb wa.heap.size 9 #[.string y.nm]:=by rw[qJ];exact Blk.new _ _ _
  have lP:wa.heap.size<wb.heap.size:=by rw[qJ];simp
  rw[<-qJ]at hH;have lE:=aA KS;clear qJ KS;refine cE 8 (by kernel_rfl) rfl (fun K hK=>?_);rw[if_pos (by rfl)];go_simp;refine(wP.out wa.heap.size 1 wb (dU.out.trans (hH.mono (by have:=dU.out.size;omega))) (fun j s hj=>?hnm) lP).mono ?_
  case hnm=>
   have:=lE.out.cell j;rw[this]
   match j,hj with
   |0,h=>injection h with h;subst h;rfl
  rintro en w2 ⟨⟨Jr,r,rfl,hr⟩,hb2⟩;have HR:=aA hr;have aP:=aA (aO.out.next (hH.next hb2));refine hK.out _ _ (hH.next hb2) (fun hH=>?_);clear hK hr hb2;(try simp only[PU,aD])
  refine aW 9 (v:=?_) rfl hH ?_;(try simp only[PU,aD])
  refine aW 10 (v:=?_) rfl hH ?_;(try simp only[PU,aD])
  refine aW 11 (v:=?_) rfl hH ?_;(try simp only[PU,aD])
  refine aW 12 (v:=?_) rfl hH ?_;(try simp only[PU,aD])
  refine wpAnyH_done (by kernel_rfl) ?_ _;clear hH;go_wp2_with fail;refine bodyPost_ret_by (results_tmp2 rfl _ _ _) rfl ?_;exact⟨⟨_,_,rfl,fun h=>o0.out (HR.out h)⟩,aP.out⟩
omit hd in
theorem WT(h:x.k=50∨x.k=51):Calls Tryz.prog 111 #[.agg #[.int .u8 x.k,.int .i64 x.num,.string x.nm,.slice x.A x.n x.cap]] w' fun en w''=>(∃nm err,en=.returned (.tuple #[.string nm,.int .i64 err])∧(err=0->RJ w B x))∧Below w'.heap.size w' w'':=by
 have XZ:=aA hx.2.2.2.2.2;have Uo:=hx.2.2.1;have IL:=aA (fun j cj hj z b W hW hz=>UH bG x hx j cj hj hs.1 z b W hW hz);have o0:Hid ((∀i q y z,i<q->q<x.n->Kid w B x i y->Kid w B x q z->(y.nm.toList==z.nm.toList)=false)->RJ w B x):=aA fun h1=>⟨by omega,fun h=>by omega,fun h=>by omega,fun h=>by omega,fun h=>by omega,fun _=>h1⟩
 have HB:=aA hb;have hn2:=hs.1;obtain⟨k,num,nm,A,n,cap⟩:=x;dsimp only at *;clear hx hs hb;rcases h with rfl|rfl
 ·go_enter Tryz.func111,Tryz.ntmps111
  go_upto_region 1 with fail;refine aB ?_;intro w1 aF;have aG:Below w'.heap.size w' w1:=by rw[aF];go_grown
  have K1:Blk w1 w'.heap.size 26 #[.int .u8 50,.int .i64 num,.string nm,.slice A n cap]:=by rw[aF];exact aQ
  have aO:=aA aG;have a9:=aA K1;have dU:=aA (HB.out.trans (aO.out.mono (by have:=HB.out.size;omega)));clear aF aG;obtain⟨aL,aJ,aK⟩:=K1.open_;clear K1;go_wp2_with fail;clear aL aJ aK
  go_loopw [100] (fun v100 wr=>∃j:Nat,j<=n∧v100=.int .i64 j∧(∀i q y z,i<q->q<j->Kid w B ⟨50,num,nm,A,n,cap⟩ i y->Kid w B ⟨50,num,nm,A,n,cap⟩ q z->(y.nm.toList==z.nm.toList)=false)∧Below w1.heap.size w1 wr) (fun v _=>n-(intOf v).toNat)
  case atStart=>exact⟨0,fI _,rfl,fun i q y z _ hq=>absurd hq (Nat.not_lt_zero _),aM _ _⟩
  case round=>
   obtain⟨j,hj,rfl,fQ,cF⟩:=hrel;have gO:=aA fQ;have cG:=aA cF;have V6:=aA (dU.out.trans (cF.mono (by have:=dU.out.size;omega)));have Bv:=aA (a9.out.next cF);clear fQ cF;by_cases e9:j<n
   ·obtain⟨y,cS,_⟩:=XZ.out j e9
    have gE:=aA cS;obtain⟨g,o,hA,cR,c0,c1,c2,c3⟩:=cS.cells V6.out;simp only at hA;subst hA;have j0:(0:Int)<=(j:Int):=by omega
    have j1:(j:Int)<(n:Int):=by omega
    have j2:(j:Int)<=(cap:Int):=by omega
    clear cS;go_upto_region 26 with fail;refine aB ?_;intro w3 dP;have aT:Below wr.heap.size wr w3:=by rw[dP];go_grown
    have K8:Blk w3 wr.heap.size 26 #[.int .u8 y.k,.int .i64 y.num,.string y.nm,.slice y.A y.n y.cap]:=by rw[dP];exact aQ
    have bD:=aA (cG.out.next aT);have U1:=aA K8;have Bi:=aA (IL.out j cap (by omega) y wr.heap.size w3 (V6.out.trans (aT.mono (by have:=V6.out.size;omega))) K8);obtain⟨aL,aJ,aK⟩:=(Bv.out.next aT).open_;clear dP aT K8 c0 c1 c2 c3;go_wp2_with fail;refine Bi.out.mono ?_;rintro en w4 ⟨⟨r,rfl,hr⟩,bV⟩;have HR:=aA hr;have dQ:=aA (bD.out.next bV);obtain⟨z_8,Nq,Jy⟩:=(U1.out.next bV).open_;clear hr bV aL aJ aK;cases r with
    |true=>
     go_wp2_with fail;refine bodyPost_ret_by (results_tmp2 rfl _ _ _) rfl ?_;exact⟨⟨_,8,rfl,fun h=>by cases h⟩,aO.out.trans (dQ.out.mono (by have:=aO.out.size;omega))⟩
    |false=>
     go_wp2_with fail;refine⟨⟨j+1,by omega,by go_num,fun i q y' z' hi hq hy hz=>?_,dQ.out⟩,by simp[intOf];omega⟩;rcases Nat.lt_or_ge q j with h|h
     ·exact gO.out i q y' z' hi h hy hz
     ·obtain rfl:q=j:=by omega
      obtain rfl:=Kid.one gE.out hz;exact HR.out (by trivial) i y' hi hy
   ·obtain rfl:j=n:=by omega
    go_wp2_with fail;refine bodyPost_ret_by (results_tmp2 rfl _ _ _) rfl ?_;exact⟨⟨_,0,rfl,fun _=>o0.out gO.out⟩,aO.out.trans (cG.out.mono (by have:=aO.out.size;omega))⟩
 ·go_enter Tryz.func111,Tryz.ntmps111
  go_upto_region 1 with fail;refine aB ?_;intro w1 aF;have aG:Below w'.heap.size w' w1:=by rw[aF];go_grown
  have K1:Blk w1 w'.heap.size 26 #[.int .u8 51,.int .i64 num,.string nm,.slice A n cap]:=by rw[aF];exact aQ
  have aO:=aA aG;have a9:=aA K1;have dU:=aA (HB.out.trans (aO.out.mono (by have:=HB.out.size;omega)));clear aF aG;obtain⟨aL,aJ,aK⟩:=K1.open_;clear K1;go_wp2_with fail;clear aL aJ aK
  go_loopw [100] (fun v100 wr=>∃j:Nat,j<=n∧v100=.int .i64 j∧(∀i q y z,i<q->q<j->Kid w B ⟨51,num,nm,A,n,cap⟩ i y->Kid w B ⟨51,num,nm,A,n,cap⟩ q z->(y.nm.toList==z.nm.toList)=false)∧Below w1.heap.size w1 wr) (fun v _=>n-(intOf v).toNat)
  case atStart=>exact⟨0,fI _,rfl,fun i q y z _ hq=>absurd hq (Nat.not_lt_zero _),aM _ _⟩
  case round=>
   obtain⟨j,hj,rfl,fQ,cF⟩:=hrel;have gO:=aA fQ;have cG:=aA cF;have V6:=aA (dU.out.trans (cF.mono (by have:=dU.out.size;omega)));have Bv:=aA (a9.out.next cF);clear fQ cF;by_cases e9:j<n
   ·obtain⟨y,cS,_⟩:=XZ.out j e9
    have gE:=aA cS;obtain⟨g,o,hA,cR,c0,c1,c2,c3⟩:=cS.cells V6.out;simp only at hA;subst hA;have j0:(0:Int)<=(j:Int):=by omega
    have j1:(j:Int)<(n:Int):=by omega
    have j2:(j:Int)<=(cap:Int):=by omega
    clear cS;go_upto_region 26 with fail;refine aB ?_;intro w3 dP;have aT:Below wr.heap.size wr w3:=by rw[dP];go_grown
    have K8:Blk w3 wr.heap.size 26 #[.int .u8 y.k,.int .i64 y.num,.string y.nm,.slice y.A y.n y.cap]:=by rw[dP];exact aQ
    have bD:=aA (cG.out.next aT);have U1:=aA K8;have Bi:=aA (IL.out j cap (by omega) y wr.heap.size w3 (V6.out.trans (aT.mono (by have:=V6.out.size;omega))) K8);obtain⟨aL,aJ,aK⟩:=(Bv.out.next aT).open_;clear dP aT K8 c0 c1 c2 c3;go_wp2_with fail;refine Bi.out.mono ?_;rintro en w4 ⟨⟨r,rfl,hr⟩,bV⟩;have HR:=aA hr;have dQ:=aA (bD.out.next bV);obtain⟨z_8,Nq,Jy⟩:=(U1.out.next bV).open_;clear hr bV aL aJ aK;cases r with
    |true=>
     go_wp2_with fail;refine bodyPost_ret_by (results_tmp2 rfl _ _ _) rfl ?_;exact⟨⟨_,8,rfl,fun h=>by cases h⟩,aO.out.trans (dQ.out.mono (by have:=aO.out.size;omega))⟩
    |false=>
     go_wp2_with fail;refine⟨⟨j+1,by omega,by go_num,fun i q y' z' hi hq hy hz=>?_,dQ.out⟩,by simp[intOf];omega⟩;rcases Nat.lt_or_ge q j with h|h
     ·exact gO.out i q y' z' hi h hy hz
     ·obtain rfl:q=j:=by omega
      obtain rfl:=Kid.one gE.out hz;exact HR.out (by trivial) i y' hi hy
   ·obtain rfl:j=n:=by omega
    go_wp2_with fail;refine bodyPost_ret_by (results_tmp2 rfl _ _ _) rfl ?_;exact⟨⟨_,0,rfl,fun _=>o0.out gO.out⟩,aO.out.trans (cG.out.mono (by have:=aO.out.size;omega))⟩
omit hd in
theorem WU(h:x.k=53)(hn:x.n=4):Calls Tryz.prog 111 #[.agg #[.int .u8 x.k,.int .i64 x.num,.string x.nm,.slice x.A x.n x.cap]] w' fun en w''=>(∃nm err,en=.returned (.tuple #[.string nm,.int .i64 err])∧(err=0->RJ w B x))∧Below w'.heap.size w' w'':=by
 have hrj:RJ w B x:=RJ.none (by omega) (by omega);obtain⟨y,cS,iW⟩:=hx.2.2.2.2.2 0 (by omega);have RP:=aA (fun W hW=>o9 bG d y iW (hs.2 0 y (by omega) cS) W hW);have HB:=aA hb;have hn2:=hs.1;obtain⟨k,num,nm,A,n,cap⟩:=x;dsimp only at *;have gE:=aA cS;have o0:=aA hrj;have j1:(0:Int)<(n:Int):=by omega
 clear hx hs hb cS iW hn hn2 hrj;subst h;go_enter Tryz.func111,Tryz.ntmps111;go_upto_region 1 with fail;refine aB ?_;intro w1 aF;have aG:Below w'.heap.size w' w1:=by rw[aF];go_grown
 have K1:Blk w1 w'.heap.size 26 #[.int .u8 53,.int .i64 num,.string nm,.slice A n cap]:=by rw[aF];exact aQ
 have aO:=aA aG;have a9:=aA K1;have dU:=aA (HB.out.trans (aO.out.mono (by have:=HB.out.size;omega)));clear aF aG;obtain⟨aL,aJ,aK⟩:=K1.open_;clear K1;obtain⟨g,o,hA,cR,c0,c1,c2,c3⟩:=gE.out.cells dU.out;simp only at hA;subst hA;simp only[Nat.zero_mul,Nat.add_zero]at c0 c1 c2 c3;go_wp2_with fail;refine(RP.out w1 dU.out).mono ?_;rintro en w2 ⟨⟨r,rfl⟩,hb2⟩;have aP:=aA (aO.out.next hb2);clear hb2 aL aJ aK c0 c1 c2 c3;cases r<;>
 ·go_wp2_with fail
  refine bodyPost_ret_by (results_tmp2 rfl _ _ _) rfl ?_;exact⟨⟨_,_,rfl,fun _=>o0.out⟩,aP.out⟩
omit hd in
theorem WV(h:x.k=52)(hn:x.n=4):Calls Tryz.prog 111 #[.agg #[.int .u8 x.k,.int .i64 x.num,.string x.nm,.slice x.A x.n x.cap]] w' fun en w''=>(∃nm err,en=.returned (.tuple #[.string nm,.int .i64 err])∧(err=0->RJ w B x))∧Below w'.heap.size w' w'':=by
 have hrj:RJ w B x:=RJ.none (by omega) (by omega);obtain⟨y,cS,iW⟩:=hx.2.2.2.2.2 3 (by omega);obtain⟨z,sU,G1⟩:=hx.2.2.2.2.2 0 (by omega);have RP:=aA (fun W hW=>o9 bG d y iW (hs.2 3 y (by omega) cS) W hW);have HCZ:=aA (fun W hW=>o9 bG d z G1 (hs.2 0 z (by omega) sU) W hW);have HB:=aA hb;have hn2:=hs.1;obtain⟨k,num,nm,A,n,cap⟩:=x;dsimp only at *;have gE:=aA cS;have o0:=aA hrj;have SB:=aA sU;have j1:(0:Int)<(n:Int):=by omega
 have j3:(3:Int)<(n:Int):=by omega
 clear hx hs hb cS iW sU G1 hn hn2 hrj;subst h;go_enter Tryz.func111,Tryz.ntmps111;go_upto_region 1 with fail;refine aB ?_;intro w1 aF;have aG:Below w'.heap.size w' w1:=by rw[aF];go_grown
 have K1:Blk w1 w'.heap.size 26 #[.int .u8 52,.int .i64 num,.string nm,.slice A n cap]:=by rw[aF];exact aQ
 have aO:=aA aG;have a9:=aA K1;have dU:=aA (HB.out.trans (aO.out.mono (by have:=HB.out.size;omega)));clear aF aG;obtain⟨aL,aJ,aK⟩:=K1.open_;clear K1;obtain⟨g,o,hA,cR,c0,c1,c2,c3⟩:=gE.out.cells dU.out;simp only at hA;subst hA;simp only[show 3*4=12 from rfl]at c0 c1 c2 c3;go_wp2_with fail;refine(RP.out w1 dU.out).mono ?_;rintro en w2 ⟨⟨r,rfl⟩,hb2⟩;have aP:=aA (aO.out.next hb2);have EP:=aA (a9.out.next hb2);have t5:=aA (dU.out.trans (hb2.mono (by have:=dU.out.size;omega)));clear hb2 aL aJ aK c0 c1 c2 c3;cases r with
 |false=>
  go_wp2_with fail;refine bodyPost_ret_by (results_tmp2 rfl _ _ _) rfl ?_;exact⟨⟨_,_,rfl,fun _=>o0.out⟩,aP.out⟩
 |true=>
  obtain⟨g',o',gF,_,c0,c1,c2,c3⟩:=SB.out.cells t5.out;simp only at gF;injection gF with gF;injection gF with e1 e2;subst e1;subst e2;simp only[Nat.zero_mul,Nat.add_zero]at c0 c1 c2 c3;obtain⟨aL,aJ,aK⟩:=EP.out.open_;go_wp2_with fail;refine(HCZ.out w2 t5.out).mono ?_;rintro en w3 ⟨⟨r,rfl⟩,aT⟩;have bD:=aA (aP.out.next aT);clear aT aL aJ aK c0 c1 c2 c3;cases r<;>
  ·go_wp2_with fail
   refine bodyPost_ret_by (results_tmp2 rfl _ _ _) rfl ?_;exact⟨⟨_,_,rfl,fun _=>o0.out⟩,bD.out⟩
theorem WY(h:x.k=43)(hn:x.n=2)(hp:∀i y,i<2->Kid w B x i y->y.k=3->1<=y.n):Calls Tryz.prog 111 #[.agg #[.int .u8 x.k,.int .i64 x.num,.string x.nm,.slice x.A x.n x.cap]] w' fun en w''=>(∃nm err,en=.returned (.tuple #[.string nm,.int .i64 err])∧(err=0->RJ w B x))∧Below w'.heap.size w' w'':=by
 obtain⟨y,cS,iW⟩:=hx.2.2.2.2.2 0 (by omega);obtain⟨z,sU,G1⟩:=hx.2.2.2.2.2 1 (by omega);have wP:=aA (fun g0 c0 W(hW:Below B w W) hN(hg:g0<W.heap.size)=>z5 bG d hd x hx hs (fun i y' hi hk=>hp i y' (by omega) hk) [y.nm,z.nm] (aH 2) g0 c0 W hW hN hg);have o0:Hid ((∀i y' s,i<x.n->Kid w B x i y'->s∈ [y.nm,z.nm]->lT w B s y')->RJ w B x):=aA fun h1=>⟨by omega,fun h=>by omega,fun _ y' z' a b=>by obtain rfl:=Kid.one cS a;obtain rfl:=Kid.one sU b;exact⟨h1 0 y _ (by omega) cS (by simp),h1 0 y _ (by omega) cS (by simp),h1 1 z _ (by omega) sU (by simp),h1 1 z _ (by omega) sU (by simp)⟩,fun h=>by omega,fun h=>by omega,fun h=>by omega⟩
 have HB:=aA hb;have hn2:=hs.1;obtain⟨k,num,nm,A,n,cap⟩:=x;dsimp only at *;have gE:=aA cS;have SB:=aA sU;have j1:(0:Int)<(n:Int):=by omega
 have j2:(1:Int)<(n:Int):=by omega
 have jn:0<n:=by omega
 clear hx hs hb cS iW sU G1 hp hn hn2;subst h;go_enter Tryz.func111,Tryz.ntmps111;go_upto_region 1 with fail;refine aB ?_;intro w1 aF;have aG:Below w'.heap.size w' w1:=by rw[aF];go_grown
 have K1:Blk w1 w'.heap.size 26 #[.int .u8 43,.int .i64 num,.string nm,.slice A n cap]:=by rw[aF];exact aQ
 have aO:=aA aG;have a9:=aA K1;have dU:=aA (HB.out.trans (aO.out.mono (by have:=HB.out.size;omega)));clear aF aG;obtain⟨aL,aJ,aK⟩:=K1.open_;clear K1;obtain⟨g,o,hA,cR,c0,c1,c2,c3⟩:=gE.out.cells dU.out;simp only at hA;subst hA;clear c0 c1 c2 c3;go_upto_region 11 with fail;clear aL aJ aK;refine wp_region_held_drew (S:=fun W=>Below w1.heap.size w1 W) (by kernel_rfl) ((aM _ _).drew) (fun hH=>?_);refine aE ?_;intro wa bP;replace hH:Below w1.heap.size w1 wa:=by rw[bP];exact(aM _ _).drew
 have hz0:=hH.size;clear bP;refine aW 0 (v:=?_) rfl hH ?_;(try simp only[PU,aD])
 refine cH 1 (v:=?_) rfl ?hy hH ?_
 case hy=>(intro bW aN;obtain⟨aL,aJ,aK⟩:=(a9.out.next aN).open_;clear aN;go_simp;try with_reducible rfl)
 (try simp only[PU,aD])
 refine aW 2 (v:=?_) rfl hH ?_;(try simp only[PU,aD])
 refine cH 3 (v:=?_) rfl ?hy hH ?_
 case hy=>(intro bW aN;obtain⟨g',o',gF,_,c0,c1,c2,c3⟩:=gE.out.cells (dU.out.trans (aN.mono (by have:=dU.out.size;omega)));simp only at gF;injection gF with gF;injection gF with e1 e2;subst e1;subst e2;simp only[Nat.zero_mul,Nat.one_mul,Nat.add_zero]at c0 c1 c2 c3;clear aN;go_simp;try with_reducible rfl)
 (try simp only[PU,aD])
 refine aW 4 (v:=?_) rfl hH ?_;(try simp only[PU,aD])
 refine cH 5 (v:=?_) rfl ?hy hH ?_
 case hy=>(intro bW aN;obtain⟨aL,aJ,aK⟩:=(a9.out.next aN).open_;clear aN;go_simp;try with_reducible rfl)
 (try simp only[PU,aD])
 refine aW 6 (v:=?_) rfl hH ?_;(try simp only[PU,aD])
 refine cH 7 (v:=?_) rfl ?hy hH ?_
 case hy=>(intro bW aN;obtain⟨g',o',gF,_,c0,c1,c2,c3⟩:=SB.out.cells (dU.out.trans (aN.mono (by have:=dU.out.size;omega)));simp only at gF;injection gF with gF;injection gF with e1 e2;subst e1;subst e2;simp only[Nat.zero_mul,Nat.one_mul,Nat.add_zero]at c0 c1 c2 c3;clear aN;go_simp;try with_reducible rfl)
 (try simp only[PU,aD])
 refine wpAnyH_ready (rs:= [8,9]) (by kernel_rfl) (by simp) ?_;refine AllReadyH.cons rfl (fun K hK=>?_) (AllReadyH.cons rfl (fun K hK=>?_) AllReadyH.nil);rw[if_pos (by rfl)];go_simp;refine hK.out _ _ (hH.next ((aM _ _).alloc (aH _) _)) (fun hH=>?_);clear hK;(try simp only[PU,aD])
 refine aE ?_;intro wb bS;have aR:Below wa.heap.size wa wb:=by rw[bS];exact(aM _ _).alloc (aH _) _
 have pX:Blk wb wa.heap.size 26 #[.int .u8 0,.int .i64 0,.string ⟨#[]⟩,.slice none 0 0]:=by rw[bS];exact Blk.new _ _ _
 have oN:=aA pX;rw[<-bS]at hH;have Hi:=pX.lt;clear bS aR pX;refine cE 9 (by kernel_rfl) rfl (fun K hK=>?_);rw[if_pos (by rfl)];go_simp;refine hK.out _ _ (hH.next ((aM _ _).alloc (aH _) _)) (fun hH=>?_);clear hK;(try simp only[PU,aD])
 refine aE ?_;intro wc bS;have aR:Below wb.heap.size wb wc:=by rw[bS];exact(aM _ _).alloc (aH _) _
 have pX:Blk wc wb.heap.size 26 #[.int .u8 0,.int .i64 0,.string ⟨#[]⟩,.slice none 0 0]:=by rw[bS];exact Blk.new _ _ _
 have oO:=aA pX;rw[<-bS]at hH;replace oN:=aA (oN.out.next aR);have WD:=pX.lt;clear bS aR pX;have Jp:=hH.size;refine cE 10 (by kernel_rfl) rfl (fun K hK=>?_);rw[if_pos (by rfl)];obtain⟨Ie,Dp,Ai⟩:=oN.out.open_;go_simp;obtain⟨h1,h2⟩:=iA (v0:=.int .u8 y.k) (v1:=.int .i64 y.num) (v2:=.string y.nm) (v3:=.slice y.A y.n y.cap) oN.out;refine hK.out _ _ (hH.trans (h2.below hH.size fun q hq=>by have:=hH.size;omega)) (fun hH=>?_);clear hK Ie Dp Ai;(try simp only[PU,aD])
 replace oN:=aA h1;replace oO:=aA (h2.blk oO.out (by omega));refine aE ?_;intro wd bS;rw[<-bS]at hH oN oO;have WE:wc.heap.size<=wd.heap.size:=by rw[bS];exact h2.size
 clear bS h1 h2;refine cE 11 (by kernel_rfl) rfl (fun K hK=>?_);rw[if_pos (by rfl)];obtain⟨Ie,Dp,Ai⟩:=oO.out.open_;go_simp;obtain⟨h1,h2⟩:=iA (v0:=.int .u8 z.k) (v1:=.int .i64 z.num) (v2:=.string z.nm) (v3:=.slice z.A z.n z.cap) oO.out;refine hK.out _ _ (hH.trans (h2.below hH.size fun q hq=>by have:=hH.size;omega)) (fun hH=>?_);clear hK Ie Dp Ai;(try simp only[PU,aD])
 replace oO:=aA h1;replace oN:=aA (h2.blk oN.out (by omega));refine aE ?_;intro we bS;rw[<-bS]at hH oO oN;have aAJ:wd.heap.size<=we.heap.size:=by rw[bS];exact h2.size
 clear bS h1 h2;refine wpAnyH_done (by kernel_rfl) ?_ _;have HE:=aA hH;obtain⟨p5,hp5⟩:∃p,p=wa.heap.size:=⟨_,rfl⟩;obtain⟨p6,hp6⟩:∃p,p=wb.heap.size:=⟨_,rfl⟩;rw[<-hp5,<-hp6];rw[<-hp5]at oN;rw[<-hp6]at oO;clear hp5 hp6 hH;rotate_left;rw[if_pos (by rfl)];go_simp;refine hK.out _ _ (hH.next ((aM _ _).alloc (aH _) _)) (fun hH=>?_);clear hK;(try simp only[PU,aD])
 refine aE ?_;intro wb bS;have aR:Below wa.heap.size wa wb:=by rw[bS];exact(aM _ _).alloc (aH _) _
 have pX:Blk wb wa.heap.size 26 #[.int .u8 0,.int .i64 0,.string ⟨#[]⟩,.slice none 0 0]:=by rw[bS];exact Blk.new _ _ _
 have oO:=aA pX;rw[<-bS]at hH;have Hi:=pX.lt;clear bS aR pX;refine cE 8 (by kernel_rfl) rfl (fun K hK=>?_);rw[if_pos (by rfl)];go_simp;refine hK.out _ _ (hH.next ((aM _ _).alloc (aH _) _)) (fun hH=>?_);clear hK;(try simp only[PU,aD])
 refine aE ?_;intro wc bS;have aR:Below wb.heap.size wb wc:=by rw[bS];exact(aM _ _).alloc (aH _) _
 have pX:Blk wc wb.heap.size 26 #[.int .u8 0,.int .i64 0,.string ⟨#[]⟩,.slice none 0 0]:=by rw[bS];exact Blk.new _ _ _
 have oN:=aA pX;rw[<-bS]at hH;replace oO:=aA (oO.out.next aR);have WD:=pX.lt;clear bS aR pX;have Jp:=hH.size;refine cE 10 (by kernel_rfl) rfl (fun K hK=>?_);rw[if_pos (by rfl)];obtain⟨Ie,Dp,Ai⟩:=oN.out.open_;go_simp;obtain⟨h1,h2⟩:=iA (v0:=.int .u8 y.k) (v1:=.int .i64 y.num) (v2:=.string y.nm) (v3:=.slice y.A y.n y.cap) oN.out;refine hK.out _ _ (hH.trans (h2.below hH.size fun q hq=>by have:=hH.size;omega)) (fun hH=>?_);clear hK Ie Dp Ai;(try simp only[PU,aD])
 replace oN:=aA h1;replace oO:=aA (h2.blk oO.out (by omega));refine aE ?_;intro wd bS;rw[<-bS]at hH oN oO;have WE:wc.heap.size<=wd.heap.size:=by rw[bS];exact h2.size
 clear bS h1 h2;refine cE 11 (by kernel_rfl) rfl (fun K hK=>?_);rw[if_pos (by rfl)];obtain⟨Ie,Dp,Ai⟩:=oO.out.open_;go_simp;obtain⟨h1,h2⟩:=iA (v0:=.int .u8 z.k) (v1:=.int .i64 z.num) (v2:=.string z.nm) (v3:=.slice z.A z.n z.cap) oO.out;refine hK.out _ _ (hH.trans (h2.below hH.size fun q hq=>by have:=hH.size;omega)) (fun hH=>?_);clear hK Ie Dp Ai;(try simp only[PU,aD])
 replace oO:=aA h1;replace oN:=aA (h2.blk oN.out (by omega));refine aE ?_;intro we bS;rw[<-bS]at hH oO oN;have aAJ:wd.heap.size<=we.heap.size:=by rw[bS];exact h2.size
 clear bS h1 h2;refine wpAnyH_done (by kernel_rfl) ?_ _;have HE:=aA hH;obtain⟨p5,hp5⟩:∃p,p=wb.heap.size:=⟨_,rfl⟩;obtain⟨p6,hp6⟩:∃p,p=wa.heap.size:=⟨_,rfl⟩;rw[<-hp6,<-hp5];rw[<-hp5]at oN;rw[<-hp6]at oO;clear hp5 hp6 hH
 all_goals
  obtain⟨aL,aJ,aK⟩:=(a9.out.next HE.out).open_;obtain⟨D9,zN,zF⟩:=oN.out.open_;obtain⟨RE,IW,IF⟩:=oO.out.open_;go_wp2_with fail;have EI:=aA (HE.out.alloc HE.out.size (.cells #[.string y.nm,.string z.nm] 9));refine(wP.out we.heap.size 2 _ (dU.out.trans (EI.out.mono (by have:=dU.out.size;omega))) (fun j s hj=>?hnm) (by simp)).mono ?_
  case hnm=>
   rw[(Blk.new we 9 #[.string y.nm,.string z.nm]).cell j]
   match j,hj with
   |0,h=>injection h with h;subst h;rfl
   |1,h=>injection h with h;subst h;rfl
  rintro en w2 ⟨⟨Jr,r,rfl,hr⟩,hb2⟩;have HR:=aA hr;have aP:=aA (aO.out.next (EI.out.next hb2));clear hr hb2 aL aJ aK D9 zN zF RE IW IF;go_wp2_with fail;refine bodyPost_ret_by (results_tmp2 rfl _ _ _) rfl ?_;exact⟨⟨_,_,rfl,fun h=>o0.out (HR.out h)⟩,aP.out⟩
end
end Go.Proofs.YtakfdnnlhjhcfaaGreatDoor
