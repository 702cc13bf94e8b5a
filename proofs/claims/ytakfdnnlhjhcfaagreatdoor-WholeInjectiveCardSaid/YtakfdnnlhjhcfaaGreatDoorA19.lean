/- Part of the proof. -/
import Derived.Test.YtakfdnnlhjhcfaaGreatDoorA18
set_option linter.unusedVariables false
set_option linter.unusedSimpArgs false
set_option maxRecDepth 100000
set_option maxHeartbeats 4000000
namespace Bk
open Go Go.RowKit
theorem KV.succ{w:World}{B:Nat}:∀{d:Nat}{x:Nd},KV w B d x->KV w B (d+1) x
 |0,_,h=>h.elim
 |d+1,x,⟨h1,h2,h3,h4,h5,h6⟩=>⟨h1,h2,h3,h4,h5,fun i hi=>let ⟨y,a,b⟩:=h6 i hi;⟨y,a,KV.succ b⟩⟩
theorem KV.kid{w:World}{B d i:Nat}{x y:Nd}(h:KV w B (d+1) x)(hi:i<x.n)(hy:Kid w B x i y):KV w B d y:=by
 obtain⟨z,a,b⟩:=h.2.2.2.2.2 i hi
 rwa [Kid.one hy a]
end Bk
namespace Go.Proofs.YtakfdnnlhjhcfaaGreatDoor
open Go.RowKit Bk
section
variable{w0 w w':World}{B0 r fuel f m:Nat}{R:Rn}{S:Sv}{σ:PSt}{kd:Nat->Int}
theorem sB{look:ByteArray->Option (List Int)}{e:Ex}{f:Nat}{t:Bool}{f':Nat}(h:j9 look e f=.ok (t,f')):f=f'+1:=by
 unfold j9 at h;cases f with
 |zero=>cases h
 |succ f=>
  dsimp only at h;split at h
  ·cases h
  ·injection h with h;injection h with _ h;rw[h]
theorem z6{x y z:Nd}(hy:Kid w0 B0 x 0 y)(hz:Kid w0 B0 x (x.n-1) z)(hn:0<x.n)(hn2:x.n<=8)(back:Bool):∃p q,p=(if back then z else y)∧q=(if back then y else z)∧∀W,Below B0 w0 W->B0<=W.heap.size->Calls Tryz.prog 125 #[.agg #[.int .u8 x.k,.int .i64 x.num,.string x.nm,.slice x.A x.n x.cap],.bool back] W fun e w'=>e=.returned (.tuple #[.agg #[.int .u8 p.k,.int .i64 p.num,.string p.nm,.slice p.A p.n p.cap],.agg #[.int .u8 q.k,.int .i64 q.num,.string q.nm,.slice q.A q.n q.cap]])∧Below W.heap.size W w':=by
 refine⟨_,_,rfl,rfl,fun W hW hB=>?_⟩;have:=Ep hy hz hn hn2 back hW hB;cases back<;>exact this
theorem LM{procs:List Pr}{n d:Nat}(mQ:G4 w0 B0 r R fuel procs n)(h:RAt w0 B0 w r R S σ fuel f kd m)(hf:f<n+1)(back:Bool){e e':Ex}{a b rest:Sq}{x:Nd}(hx:StAt w0 B0 (d+1) (.ifs e a b e' rest) x)(hk:KV w0 B0 (d+1) x)(pT:(Sq.ifs e a b e' rest).cok procs):
  Calls Tryz.prog 100 #[.pointer (some ⟨r,0,none⟩),.agg #[.int .u8 x.k,.int .i64 x.num,.string x.nm,.slice x.A x.n x.cap],.bool back] w fun en w'=>RunP w0 B0 w r R S fuel (jB procs n (execP procs n) back (.ifs e a b e' rest) σ f) en w':=by
 obtain⟨aAu,U9,y0,y1,y2,y3,k0,k1,k2,k3,v0,b1,b2,v3⟩:=hx;have kv:=fun i y(hi:i<4)(hy:Kid w0 B0 x i y)=>hk.kid (by rw[U9];exact hi) hy
 obtain⟨p,q,hp,hq,hE⟩:=z6 (y:=y0) (z:=y3) k0 (by rw[U9];exact k3) (by omega) (by omega) back;have HP:EV w0 B0 aS (if back then e' else e) p∧KV w0 B0 d p:=by
  subst hp;cases back
  ·exact⟨v0,kv 0 _ (by omega) k0⟩
  ·exact⟨v3,kv 3 _ (by omega) k3⟩
 have HQ:EV w0 B0 aS (if back then e else e') q∧KV w0 B0 d q:=by
  subst hq;cases back
  ·exact⟨v3,kv 3 _ (by omega) k3⟩
  ·exact⟨v0,kv 0 _ (by omega) k0⟩
 show Calls _ _ _ _ fun en w'=>RunP w0 B0 w r R S fuel (fF (if back then e' else e) (fun t=>(execP procs n back (if t then a else b)).seq (bF (if back then e else e') t)) σ f) en w'
 rw[nT];have Bd:∀t:Bool,∃y i,Kid w0 B0 x i y∧i=(if t then 1 else 2)∧SqAt w0 B0 d (if t then a else b) y∧KV w0 B0 (d+1) y∧(if t then a else b).cok procs:=fun t=>by
  cases t
  ·exact⟨y2,2,k2,rfl,b2,(kv 2 _ (by omega) k2).succ,pT.2.1⟩
  ·exact⟨y1,1,k1,rfl,b1,(kv 1 _ (by omega) k1).succ,pT.1⟩
 generalize (if back then e' else e)=E1 at *;generalize (if back then e else e')=E2 at *;have H1:Hid (∀W,Below w.heap.size w W->RAt w0 B0 W r R S σ fuel f kd m):=aA fun W hW=>h.next hW h.B
 have HH:=aA (fun W hW=>zU (H1.out W hW) HP.1 HP.2);obtain⟨Q,hQ⟩:∃Q,j9 σ.look E1 f=Q:=⟨_,rfl⟩;rw[hQ]at HH⊢;have RS:=aA hE;have SL:=aA HQ;have RI:=aA Bd;have QJ:=aA mQ;have HB:=aA (show Below B0 w0 w∧B0<=w.heap.size from⟨h.base,h.B⟩);have YC:=aA U9;have oZ:Hid (∀b,w.heap.size<=b->¬RO S R r b):=aA fun b hb=>h.nro hb
 clear hE HQ Bd mQ U9 h hp hq HP kv k0 k1 k2 k3 v0 v3 b1 b2 hk aAu pT;obtain⟨k,num,nm,A,nn,cap⟩:=x;obtain⟨pk,pnum,pnm,pA,pn,pc⟩:=p;obtain⟨qk,qnum,qnm,qA,qn,qc⟩:=q;dsimp only at *;cases Q with
 |error y=>
  unfold uG bZ at HH;dsimp only at HH;clear hQ SL RI QJ oZ;go_enter Tryz.func100,Tryz.ntmps100;go_upto_region 1 with fail;refine aB ?_;intro w1 aF;have aG:Below w.heap.size w w1:=(by rw[aF];go_grown);have K1:Blk w1 w.heap.size 26 #[.int .u8 k,.int .i64 num,.string nm,.slice A nn cap]:=(by rw[aF];exact aQ);have aO:=aA aG;have a9:=aA K1;have hs1:=aG.size;obtain⟨aL,aJ,aK⟩:=K1.open_;clear aF aG K1;go_wp2_with fail;refine(RS.out w1 (HB.out.1.trans (aO.out.mono HB.out.2)) (fC HB.out.2 hs1)).mono ?_;rintro en w2 ⟨rfl,hb2⟩;have aP:=aA (aO.out.next hb2);have bI:=aA (a9.out.next hb2);have hs2:=hb2.size;clear hb2 aL aJ aK a9 aO;go_upto_region 2 with fail;refine aB ?_;intro w3 dP;have aT:Below w2.heap.size w2 w3:=(by rw[dP];go_grown);have K6:Blk w3 w2.heap.size 26 #[.int .u8 pk,.int .i64 pnum,.string pnm,.slice pA pn pc]:=(by rw[dP];exact aQ);have K7:Blk w3 (w2.heap.size+1) 26 #[.int .u8 qk,.int .i64 qnum,.string qnm,.slice qA qn qc]:=(by rw[dP];exact(Blk.new' (by simp) _ _));have bD:=aA (aP.out.next aT);have dD:=aA (bI.out.next aT);have E8:=aA K7;obtain⟨RE,IW,IF⟩:=K6.open_;clear dP aT K6 K7 bI aP;go_wp2_with fail;refine(HH.out w3 bD.out).mono ?_;rintro en w4 ⟨rfl,bV⟩;have dQ:=aA bV;clear bV;go_wp2_with fail;exact⟨rfl,rfl,dQ.out⟩
 |ok rr=>
  obtain⟨t,f'⟩:=rr;have ZF:=sB hQ;obtain⟨y,i,hy,hi,hsq,tP,pT⟩:=RI.out t;have RN:=aA pT;have HYK:=aA hy;have HSK:=aA hsq;have U2:=aA tP;obtain⟨g,o,hA,cR,hcl⟩:=hy;dsimp only at hA;subst hA;have iK:Hid (∀W,Below B0 w0 W->W.cell? ⟨g,o+i*4,none⟩=some (.int .u8 y.k)∧W.cell? ⟨g,o+i*4+1,none⟩=some (.int .i64 y.num)∧W.cell? ⟨g,o+i*4+2,none⟩=some (.string y.nm)∧W.cell? ⟨g,o+i*4+3,none⟩=some (.slice y.A y.n y.cap)):=aA fun W hW=>⟨(hW.cell (p:=⟨g,o+i*4,none⟩) cR).trans (hcl 0 _ rfl),(hW.cell (p:=⟨g,o+i*4+1,none⟩) cR).trans (hcl 1 _ rfl),(hW.cell (p:=⟨g,o+i*4+2,none⟩) cR).trans (hcl 2 _ rfl),(hW.cell (p:=⟨g,o+i*4+3,none⟩) cR).trans (hcl 3 _ rfl)⟩
  have HI:=aA hi;have wW:=aA ZF;have U9:=YC.out;subst U9;unfold uG at HH;dsimp only at HH⊢;obtain⟨QT,hQT⟩:∃QT,((execP procs n back (if t=true then a else b)).seq (bF E2 t)) σ f'=QT:=⟨_,rfl⟩;rw[hQT];unfold Mo.seq at hQT;have tZ:=aA (fun W S'(h:RAt w0 B0 W r R S' σ fuel f' kd m)=>QJ.out W S' σ f' kd m h (by have:=wW.out;omega) back d _ y HSK.out U2.out RN.out);obtain⟨Q2,hQ2⟩:∃Q2,execP procs n back (if t=true then a else b) σ f'=Q2:=⟨_,rfl⟩;rw[hQ2]at tZ hQT;have tG:=aA hQT;clear pT hQT hQ ZF hi hsq tP hcl hQ2 RI QJ HSK U2 HYK RN;obtain⟨yk,ynum,ynm,yA,yn,yc⟩:=y;dsimp only at iK tZ;go_enter Tryz.func100,Tryz.ntmps100;go_upto_region 1 with fail;refine aB ?_;intro w1 aF;have aG:Below w.heap.size w w1:=(by rw[aF];go_grown);have K1:Blk w1 w.heap.size 26 #[.int .u8 k,.int .i64 num,.string nm,.slice (some ⟨g,o,none⟩) 4 cap]:=(by rw[aF];exact aQ);have aO:=aA aG;have a9:=aA K1;have hs1:=aG.size;obtain⟨aL,aJ,aK⟩:=K1.open_;clear aF aG K1;go_wp2_with fail;refine(RS.out w1 (HB.out.1.trans (aO.out.mono HB.out.2)) (fC HB.out.2 hs1)).mono ?_;rintro en w2 ⟨rfl,hb2⟩;have aP:=aA (aO.out.next hb2);have bI:=aA (a9.out.next hb2);have hs2:=hb2.size;clear hb2 aL aJ aK a9 aO;go_upto_region 2 with fail;refine aB ?_;intro w3 dP;have aT:Below w2.heap.size w2 w3:=(by rw[dP];go_grown)
  have K6:Blk w3 w2.heap.size 26 #[.int .u8 pk,.int .i64 pnum,.string pnm,.slice pA pn pc]:=(by rw[dP];exact aQ);have K7:Blk w3 (w2.heap.size+1) 26 #[.int .u8 qk,.int .i64 qnum,.string qnm,.slice qA qn qc]:=(by rw[dP];exact(Blk.new' (by simp) _ _));have bD:=aA (aP.out.next aT);have dD:=aA (bI.out.next aT);have E8:=aA K7;obtain⟨RE,IW,IF⟩:=K6.open_;clear dP aT K6 K7 bI aP;go_wp2_with fail;refine(HH.out w3 bD.out).mono ?_;rintro en w4 ⟨rfl,xI,pI⟩;have lH:=aA xI;have l9:=aA pI;have K1:=pI.blk dD.out (oZ.out _ (aH _));have eG:=aA (pI.blk E8.out (oZ.out _ (by omega)));obtain⟨c0,c1,c2,c3⟩:=iK.out w4 xI.base;obtain⟨aL,aJ,aK⟩:=K1.open_;clear xI pI K1 RE IW IF;have Ij:=aA (fun W S' σ' f' kd' m'(h:RAt w0 B0 W r R S' σ' fuel f' kd' m')=>J0 h SL.out.1 SL.out.2 t);have HXX:=aA (Fr.of (O:=RO S R r) bD.out);cases Q2 with
  |error e2=>
   obtain rfl:QT=.error e2:=tG.out.symm;unfold RunP bZ at tZ;dsimp only at tZ;cases t
   all_goals
    have hi:=HI.out;simp only[Bool.false_eq_true,if_false,if_true]at hi;subst hi;simp only[Nat.one_mul,Nat.reduceMul]at c0 c1 c2 c3;go_wp2_with fail;refine(tZ.out w4 S lH.out).mono ?_;rintro en w5 ⟨rfl,cW⟩;have gL:=aA cW;clear cW;go_wp2_with fail;exact⟨rfl,rfl,gL.out⟩
  |ok p2=>
   obtain⟨σ5,f5⟩:=p2;unfold RunP at tZ;dsimp only at tZ;have RH:=aA (fun W S' kd' m'(h:RAt w0 B0 W r R S' σ5 fuel f5 kd' m')=>Ij.out W S' σ5 f5 kd' m' h);have hQ3:bF E2 t σ5 f5=QT:=tG.out;rw[hQ3]at RH;have Xx:Hid (¬RO S R r (w2.heap.size+1)):=aA (oZ.out _ (by omega));clear hQ3 Ij tG;have CJ:Hid (∀w5 S5 en w6,S.Ext S5 w4->Fr (RO S R r) w4 w5->RunP w0 B0 w5 r R S5 fuel QT en w6->RunP w0 B0 w r R S fuel QT en w6):=aA fun w5 S5 en w6 h1 h2 h3=>RunP.pre (w':=w4) (S':=S) (Sv.Ext.refl _ _) (HXX.out.trans l9.out) (RunP.pre h1 h2 h3)
   cases t
   all_goals
    have hi:=HI.out;simp only[Bool.false_eq_true,if_false,if_true]at hi;subst hi;simp only[Nat.one_mul,Nat.reduceMul]at c0 c1 c2 c3;go_wp2_with fail;refine(tZ.out w4 S lH.out).mono ?_;rintro en w5 ⟨rfl,S5,kd5,m5,Jk,sW,r9⟩;have nK:=aA Jk;have gP:=aA sW;have s7:=aA r9;obtain⟨Vl,Uh,Th⟩:=(r9.blk eG.out Xx.out).open_;clear Jk sW r9 aL aJ aK c0 c1 c2 c3;go_wp2_with fail;refine(RH.out w5 S5 kd5 m5 nK.out).mono ?_;intro en w6 h6;have pQ:=aA (CJ.out w5 S5 en w6 gP.out s7.out h6);have H6:=aA h6;clear h6;cases QT with
    |error e3=>
     obtain⟨rfl,_⟩:=H6.out;unfold bZ at *;go_wp2_with fail;exact⟨rfl,pQ.out⟩
    |ok p3=>
     obtain⟨rfl,_⟩:=H6.out;go_wp2_with fail;refine bodyPost_end (results_none rfl _ _ _) rfl ?_;exact pQ.out
end
section
variable{w0 w w':World}{B0 r fuel f m:Nat}{R:Rn}{S:Sv}{σ:PSt}{kd:Nat->Int}
theorem uQ{e:Ex}{want:Bool}{σ σ':PSt}{f f':Nat}(h:bF e want σ f=.ok (σ',f')):f=f'+1:=by
 unfold bF at h;rw[nT]at h;cases hq:j9 σ.look e f with
 |error x=>rw[hq]at h;cases h
 |ok r=>
  obtain⟨t,f1⟩:=r;have:=sB hq;rw[hq]at h;dsimp only at h;split at h
  ·simp only[xM,Except.ok.injEq,Prod.mk.injEq]at h
   omega
  ·cases h
def YO(W:World)(bi b6 b7:Nat)(ti:TypeId)(ci c6 c7:Array Value):Prop:=Blk W bi ti ci∧Blk W b6 ti c6∧Blk W b7 ti c7
theorem Ec{procs:List Pr}{n d:Nat}(mQ:G4 w0 B0 r R fuel procs n)(h:RAt w0 B0 w r R S σ fuel f kd m)(hf:f<n+1)(back:Bool){e e':Ex}{a b rest:Sq}{x:Nd}(hx:StAt w0 B0 (d+1) (.frm e a b e' rest) x)(hk:KV w0 B0 (d+1) x)(pT:(Sq.frm e a b e' rest).cok procs):
  Calls Tryz.prog 101 #[.pointer (some ⟨r,0,none⟩),.agg #[.int .u8 x.k,.int .i64 x.num,.string x.nm,.slice x.A x.n x.cap],.bool back] w fun en w'=>RunP w0 B0 w r R S fuel (jB procs n (execP procs n) back (.frm e a b e' rest) σ f) en w':=by
 obtain⟨aAv,U9,y0,y1,y2,y3,k0,k1,k2,k3,v0,b1,b2,v3⟩:=hx;have kv:=fun i y(hi:i<4)(hy:Kid w0 B0 x i y)=>hk.kid (by rw[U9];exact hi) hy
 obtain⟨p,q,hp,hq,hE⟩:=z6 (y:=y0) (z:=y3) k0 (by rw[U9];exact k3) (by omega) (by omega) back;have HP:EV w0 B0 aS (if back then e' else e) p∧KV w0 B0 d p:=by
  subst hp;cases back
  ·exact⟨v0,kv 0 _ (by omega) k0⟩
  ·exact⟨v3,kv 3 _ (by omega) k3⟩
 have HQ:EV w0 B0 aS (if back then e else e') q∧KV w0 B0 d q:=by
  subst hq;cases back
  ·exact⟨v3,kv 3 _ (by omega) k3⟩
  ·exact⟨v0,kv 0 _ (by omega) k0⟩
 show Calls _ _ _ _ fun en w'=>RunP w0 B0 w r R S fuel (((bF (if back then e' else e) true).seq (iB (execP procs n back a) (execP procs n back b) (if back then e' else e) (if back then e else e') n)) σ f) en w'
 generalize (if back then e' else e)=E1 at *;generalize (if back then e else e')=E2 at *;have H1:Hid (∀W,Below w.heap.size w W->RAt w0 B0 W r R S σ fuel f kd m):=aA fun W hW=>h.next hW h.B
 have RS:=aA hE;have HB:=aA (show Below B0 w0 w∧B0<=w.heap.size from⟨h.base,h.B⟩);have oZ:Hid (∀b,w.heap.size<=b->¬RO S R r b):=aA fun b hb=>h.nro hb
 have Ij:=aA (fun want W S' σ' f' kd' m'(h:RAt w0 B0 W r R S' σ' fuel f' kd' m')=>J0 h HP.1 HP.2 want);have HHO:=aA (fun W S' σ' f' kd' m'(h:RAt w0 B0 W r R S' σ' fuel f' kd' m')=>zU h HQ.1 HQ.2);have aO:=aA (fun W S' σ' f' kd' m'(h:RAt w0 B0 W r R S' σ' fuel f' kd' m')(hf:f'<n)=>mQ W S' σ' f' kd' m' h hf back d a y1 b1 (kv 1 _ (by omega) k1).succ pT.1);have aP:=aA (fun W S' σ' f' kd' m'(h:RAt w0 B0 W r R S' σ' fuel f' kd' m')(hf:f'<n)=>mQ W S' σ' f' kd' m' h hf back d b y2 b2 (kv 2 _ (by omega) k2).succ pT.2.1);have HL1:Hid (∀σ f σ' f',f<n->execP procs n back a σ f=.ok (σ',f')->f'<=f):=aA fun σ f σ' f' h1 h2=>(Fuels.execP procs n back a σ f h1 σ' f' h2).1
 have HL2:Hid (∀σ f σ' f',f<n->execP procs n back b σ f=.ok (σ',f')->f'<=f):=aA fun σ f σ' f' h1 h2=>(Fuels.execP procs n back b σ f h1 σ' f' h2).1
 generalize execP procs n back a=MA at *;generalize execP procs n back b=MB at *;obtain⟨QT,hQT⟩:∃QT,((bF E1 true).seq (iB MA MB E1 E2 n)) σ f=QT:=⟨_,rfl⟩;rw[hQT];unfold Mo.seq at hQT;obtain⟨Q1,hQ1⟩:∃Q1,bF E1 true σ f=Q1:=⟨_,rfl⟩;rw[hQ1]at hQT;have X0:=aA hQ1;have tG:=aA hQT;have G6:=aA hf;obtain⟨g,o,hA,cR,rZ⟩:=k1;obtain⟨g',o',gF,_,mR⟩:=k2;rw[hA]at gF;injection gF with gF;injection gF with e1 e2 _;subst e1;subst e2;clear hE mQ hQT hQ1 h hp hq HP HQ kv k0 k3 v0 v3 b1 b2 hk aAv hf pT;obtain⟨xk,num,nm,A,nn,cap⟩:=x;obtain⟨pk,pnum,pnm,pA,pn,pc⟩:=p;obtain⟨qk,qnum,qnm,qA,qn,qc⟩:=q;obtain⟨yk,ynum,ynm,yA,yn,yc⟩:=y1;obtain⟨zk,znum,znm,zA,zn,zc⟩:=y2;dsimp only at *;subst hA;subst U9;simp only[Nat.one_mul,Nat.reduceMul]at rZ mR;have E5:Hid (∀W,Below B0 w0 W->W.cell? ⟨g,o+4,none⟩=some (.int .u8 yk)∧W.cell? ⟨g,o+4+1,none⟩=some (.int .i64 ynum)∧W.cell? ⟨g,o+4+2,none⟩=some (.string ynm)∧W.cell? ⟨g,o+4+3,none⟩=some (.slice yA yn yc)):=aA fun W hW=>⟨(hW.cell (p:=⟨g,o+4,none⟩) cR).trans (rZ 0 _ rfl),(hW.cell (p:=⟨g,o+4+1,none⟩) cR).trans (rZ 1 _ rfl),(hW.cell (p:=⟨g,o+4+2,none⟩) cR).trans (rZ 2 _ rfl),(hW.cell (p:=⟨g,o+4+3,none⟩) cR).trans (rZ 3 _ rfl)⟩
 have Kl:Hid (∀W,Below B0 w0 W->W.cell? ⟨g,o+8,none⟩=some (.int .u8 zk)∧W.cell? ⟨g,o+8+1,none⟩=some (.int .i64 znum)∧W.cell? ⟨g,o+8+2,none⟩=some (.string znm)∧W.cell? ⟨g,o+8+3,none⟩=some (.slice zA zn zc)):=aA fun W hW=>⟨(hW.cell (p:=⟨g,o+8,none⟩) cR).trans (mR 0 _ rfl),(hW.cell (p:=⟨g,o+8+1,none⟩) cR).trans (mR 1 _ rfl),(hW.cell (p:=⟨g,o+8+2,none⟩) cR).trans (mR 2 _ rfl),(hW.cell (p:=⟨g,o+8+3,none⟩) cR).trans (mR 3 _ rfl)⟩
 clear rZ mR cR;go_enter Tryz.func101,Tryz.ntmps101;go_upto_region 1 with fail;refine aB ?_;intro w1 aF;have aG:Below w.heap.size w w1:=(by rw[aF];go_grown);have K1:Blk w1 w.heap.size 26 #[.int .u8 xk,.int .i64 num,.string nm,.slice (some ⟨g,o,none⟩) 4 cap]:=(by rw[aF];exact aQ);have aO:=aA aG;have a9:=aA K1;have hs1:=aG.size;obtain⟨aL,aJ,aK⟩:=K1.open_;clear aF aG K1;go_wp2_with fail;refine(RS.out w1 (HB.out.1.trans (aO.out.mono HB.out.2)) (fC HB.out.2 hs1)).mono ?_;rintro en w2 ⟨rfl,hb2⟩;have aP:=aA (aO.out.next hb2);have bI:=aA (a9.out.next hb2);have hs2:=hb2.size;clear hb2 aL aJ aK a9 aO;go_upto_region 2 with fail;refine aB ?_;intro w3 dP;have aT:Below w2.heap.size w2 w3:=(by rw[dP];go_grown);have K6:Blk w3 w2.heap.size 26 #[.int .u8 pk,.int .i64 pnum,.string pnm,.slice pA pn pc]:=(by rw[dP];exact aQ);have K7:Blk w3 (w2.heap.size+1) 26 #[.int .u8 qk,.int .i64 qnum,.string qnm,.slice qA qn qc]:=(by rw[dP];exact(Blk.new' (by simp) _ _));have bD:=aA (aP.out.next aT);have dD:=aA (bI.out.next aT);have oF:=aA K6;have E8:=aA K7;have oM:=aA (oZ.out w.heap.size (aH _));have IQ:=aA (oZ.out w2.heap.size (by omega));have Ch:=aA (oZ.out (w2.heap.size+1) (by omega));have Gn:w.heap.size<w2.heap.size:=by have:=bI.out.lt;omega
 clear dP aT K6 K7 bI aP oZ hs1;have HW3:Hid (w.heap.size<=w3.heap.size):=aA bD.out.size;have jK:=aA (Fr.of (O:=RO S R r) bD.out);have wZ:Hid (∀S5,S.Ext S5 w3->S.Ext S5 w):=aA fun S5 h=>⟨h.1,fun k hk=>h.2 k (dX hk bD.out.size)⟩
 have wY:=aA (H1.out w3 bD.out);generalize Gd:w2.heap.size+1=b7 at *;generalize w2.heap.size=b6 at *;generalize Jc:w.heap.size=bi at *;clear Gd Jc bD H1;have gK:Hid (∀W,Fr (RO S R r) w3 W->YO W bi b6 b7 26 #[.int .u8 xk,.int .i64 num,.string nm,.slice (some ⟨g,o,none⟩) 4 cap] #[.int .u8 pk,.int .i64 pnum,.string pnm,.slice pA pn pc] #[.int .u8 qk,.int .i64 qnum,.string qnm,.slice qA qn qc]):=aA fun W hW=>⟨hW.blk dD.out oM.out,hW.blk oF.out IQ.out,hW.blk E8.out Ch.out⟩
 obtain⟨RE,IW,IF⟩:=oF.out.open_;clear dD oF E8 oM IQ Ch;go_wp2_with fail;cases Q1 with
 |error e1=>
  obtain rfl:QT=.error e1:=tG.out.symm;have HC:=aA (Ij.out true w3 S σ f kd m wY.out);rw[X0.out]at HC;unfold RunP bZ at HC;dsimp only at HC;refine HC.out.mono ?_;rintro en w4 ⟨rfl,vP⟩;have t6:=aA vP;clear vP;go_wp2_with fail;exact⟨rfl,rfl,t6.out⟩
 |ok r1=>
  obtain⟨σ1,f1⟩:=r1;have XW:=aA (uQ X0.out);have HC:=aA (Ij.out true w3 S σ f kd m wY.out);rw[X0.out]at HC;unfold RunP at HC;dsimp only at HC tG;refine HC.out.mono ?_;rintro en w4 ⟨rfl,S4,kd4,m4,xI,hx4,pI⟩;have lH:=aA xI;have lZ:=aA hx4;have l9:=aA pI;clear xI hx4 pI HC RE IW IF;go_wp2_with fail
  go_loopg [] n (fun k wr=>∃(S':Sv)(σ':PSt)(f':Nat)(kd':Nat->Int)(m':Nat),f'<k∧k<=n∧RAt w0 B0 wr r R S' σ' fuel f' kd' m'∧S.Ext S' w3∧Fr (RO S R r) w3 wr∧iB MA MB E1 E2 k σ' f'=QT)
  case atStart=>exact⟨S4,σ1,f1,kd4,m4,by have:=XW.out;have:=G6.out;omega,aH _,lH.out,lZ.out,l9.out,tG.out⟩
  case round=>
   obtain⟨S',σ',f',kd',m',xE,Ji,hr,hx,gD,sV⟩:=hrel;obtain⟨j,rfl⟩:∃j,gk=j+1:=⟨gk-1,by omega⟩;have hwr:=fC HW3.out gD.size;have HXS:Hid (∀S2,S'.Ext S2 wr->S.Ext S2 w3):=aA fun S2 h2=>hx.trans h2 gD.size
   have V9:Hid (∀W,Fr (RO S' R r) wr W->Fr (RO S R r) w3 W):=aA fun W h2=>RO.fr hx gD h2
   have YJ:=aA hr;have Cu:=aA sV;obtain⟨K1,K6,K7⟩:=gK.out wr gD;obtain⟨aL,aJ,aK⟩:=K1.open_;obtain⟨c0,c1,c2,c3⟩:=E5.out wr hr.base;have yL:f'<n:=by omega
   have HC:=aA (aO.out wr S' σ' f' kd' m' hr yL);have Xl:=aA (fun σ'' f'' h=>HL1.out σ' f' σ'' f'' yL h);have HJ:=aA xE;have Bt:=aA Ji;unfold iB Mo.seq at sV;obtain⟨QA,hQA⟩:∃QA,MA σ' f'=QA:=⟨_,rfl⟩;rw[hQA]at HC sV Xl;have j6:=aA sV;clear hr hx gD sV K1 K6 K7 xE Ji yL hQA Cu;cases QA with
   |error e2=>
    obtain rfl:QT=.error e2:=j6.out.symm;unfold RunP bZ at HC;dsimp only at HC;go_wp2_with fail;refine HC.out.mono ?_;rintro en w5 ⟨rfl,Pq⟩;have Vx:=aA Pq;clear Pq;go_wp2_with fail;exact⟨rfl,rfl,Vx.out⟩
   |ok r2=>
    obtain⟨σ2,f2⟩:=r2;have lG:=aA (Xl.out σ2 f2 rfl);unfold RunP at HC;dsimp only at HC j6;go_wp2_with fail;refine HC.out.mono ?_;rintro en w5 ⟨rfl,S5,kd5,m5,Jk,sW,r9⟩;have nK:=aA Jk;have gP:=aA (HXS.out S5 sW);have s7:=aA (V9.out w5 r9);obtain⟨K1,K6,K7⟩:=gK.out w5 s7.out;obtain⟨Vl,Uh,Th⟩:=K7.open_;rw[nT]at j6;have HH:=aA (HHO.out w5 S5 σ2 f2 kd5 m5 Jk);obtain⟨QH,hQH⟩:∃QH,j9 σ2.look E2 f2=QH:=⟨_,rfl⟩;rw[hQH]at HH j6;have HQH:=aA hQH;clear Jk sW r9 K1 K6 K7 hQH HC Xl aL aJ aK c0 c1 c2 c3 HXS V9;go_wp2_with fail;cases QH with
    |error e3=>
     obtain rfl:QT=.error e3:=j6.out.symm;unfold uG bZ at HH;dsimp only at HH;refine HH.out.mono ?_;rintro en w6 ⟨rfl,Ps⟩;have Vy:=aA Ps;clear Ps;go_wp2_with fail;exact⟨rfl,rfl,Vy.out⟩
    |ok r3=>
     obtain⟨tt,f3⟩:=r3;have Lc:=aA (sB HQH.out);unfold uG at HH;dsimp only at HH j6;refine HH.out.mono ?_;rintro en w6 ⟨rfl,hr6,wS⟩;have YH:=aA hr6;have pQ:=aA (RO.fr gP.out s7.out wS);obtain⟨K1,K6,K7⟩:=gK.out w6 pQ.out;obtain⟨aL,aJ,aK⟩:=K1.open_;obtain⟨c0,c1,c2,c3⟩:=Kl.out w6 hr6.base;clear hr6 wS K1 K6 K7 Vl Uh Th HH;cases tt with
     |true=>
      obtain rfl:QT=.ok (σ2,f3):=j6.out.symm;clear E5 Kl j6 aO aP;go_wp2_with fail;refine bodyPost_end (results_none rfl _ _ _) rfl ?_;exact⟨rfl,S5,kd5,m5,YH.out,wZ.out _ gP.out,jK.out.trans pQ.out⟩
     |false=>
      have kD:Hid (S.Ext S5 w3):=gP;have Gi:f3<n:=by have:=Lc.out;have:=lG.out;have:=HJ.out;have:=Bt.out;omega
      have HC:=aA (aP.out w6 S5 σ2 f3 kd5 m5 YH.out Gi);have Ma:=aA (fun σ'' f'' h=>HL2.out σ2 f3 σ'' f'' Gi h);have iN:Hid (((MB.seq ((bF E1 false).seq (iB MA MB E1 E2 j))) σ2 f3)=QT):=j6;unfold Mo.seq at iN;obtain⟨QB,hQB⟩:∃QB,MB σ2 f3=QB:=⟨_,rfl⟩;rw[hQB]at HC iN Ma;clear hQB j6 Gi HQH;cases QB with
      |error e4=>
       obtain rfl:QT=.error e4:=iN.out.symm;unfold RunP bZ at HC;dsimp only at HC;go_wp2_with fail;refine HC.out.mono ?_;rintro en w7 ⟨rfl,N4⟩;have JG:=aA N4;clear N4;go_wp2_with fail;exact⟨rfl,rfl,JG.out⟩
      |ok r4=>
       obtain⟨σ4,f4⟩:=r4;have Wk:=aA (Ma.out σ4 f4 rfl);unfold RunP at HC;dsimp only at HC iN;go_wp2_with fail;refine HC.out.mono ?_;rintro en w7 ⟨rfl,S7,kd7,m7,JC,OJ,N7⟩;have X1:=aA JC;have E6:=aA (RO.fr kD.out pQ.out N7);have uF:=aA (kD.out.trans OJ pQ.out.size);obtain⟨K1,K6,K7⟩:=gK.out w7 E6.out;obtain⟨RE,IW,IF⟩:=K6.open_;have HA:=aA (Ij.out false w7 S7 σ4 f4 kd7 m7 JC);obtain⟨QN,hQN⟩:∃QN,bF E1 false σ4 f4=QN:=⟨_,rfl⟩;rw[hQN]at HA iN;have HQN:=aA hQN;clear JC OJ N7 K1 K6 K7 hQN HC Ma aL aJ aK c0 c1 c2 c3;go_wp2_with fail;cases QN with
       |error e5=>
        obtain rfl:QT=.error e5:=iN.out.symm;unfold RunP bZ at HA;dsimp only at HA;refine HA.out.mono ?_;rintro en w8 ⟨rfl,vQ⟩;have V8:=aA vQ;clear vQ;go_wp2_with fail;exact⟨rfl,rfl,V8.out⟩
       |ok r5=>
        obtain⟨σ5,f5⟩:=r5;have Wl:=aA (uQ HQN.out);unfold RunP at HA;dsimp only at HA iN;refine HA.out.mono ?_;rintro en w8 ⟨rfl,S8,kd8,m8,hr8,ZS,lQ⟩;have j7:=aA hr8;have pR:=aA (RO.fr uF.out E6.out lQ);have U3:=aA (uF.out.trans ZS E6.out.size);clear hr8 ZS lQ RE IW IF HA;go_wp2_with fail;go_roundg j
        case measure=>omega
        case rel=>exact⟨S8,σ5,f5,kd8,m8,(by have:=Wl.out;have:=Wk.out;have:=Lc.out;have:=lG.out;have:=HJ.out;omega),(by have:=Bt.out;omega),j7.out,U3.out,pR.out,iN.out⟩
end
end Go.Proofs.YtakfdnnlhjhcfaaGreatDoor
