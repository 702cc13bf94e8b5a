/- Part of the proof. -/
import Derived.Test.YtakfdnnlhjhcfaaGreatDoorA21
set_option linter.unusedVariables false
set_option linter.unusedSimpArgs false
set_option maxRecDepth 100000
set_option maxHeartbeats 4000000
namespace Bk
open Go Go.RowKit Go.Proofs.YtakfdnnlhjhcfaaGreatDoor
structure KD(w0:World)(B0 d:Nat)(R:Rn)(procs:List Pr)(pcs:List Pc):Prop where
 b:B0<=w0.heap.size
 v:∃V nv cv,R.V=.slice V nv cv
 q:∃Q cq,R.Q=.slice Q pcs.length cq∧PrsAt w0 B0 (d+1) Q pcs
 e:∃A cp,R.ent=.slice A pcs.length cp
 n:pcs.length<=1000
 len:procs.length=pcs.length
 pr:∀(i:Nat)(p:Pc)(u:Pr),pcs[i]?=some p->procs[i]?=some u->p.nm=u.nm∧p.vs=u.params∧SqAt w0 B0 d u.body p.body∧p.vs.length<=8∧u.body.cok procs
theorem yD{s:ByteArray}:∀{procs:List Pr}{pcs:List Pc}{u:Pr},procs.length=pcs.length->(∀(i:Nat)(p:Pc)(u:Pr),pcs[i]?=some p->procs[i]?=some u->p.nm=u.nm)->procs.find? (fun p=>p.nm.toList==s.toList)=some u->∃i p,fJ s pcs=some i∧pcs[i]?=some p∧procs[i]?=some u
 | [],_,_,_,_,h=>by simp at h
 |_::_,[],_,hl,_,_=>by simp at hl
 |q::qs,p::ps,u,hl,hn,h=>by
  have h0:=hn 0 p q rfl rfl;simp only[List.find?_cons]at h;by_cases hc:(q.nm.toList==s.toList)=true
  ·rw[hc]at h;injection h with h;subst h
   exact⟨0,p,by simp only[fJ];rw[h0,if_pos hc],rfl,rfl⟩
  ·simp only[Bool.not_eq_true]at hc
   rw[hc]at h;obtain⟨i,p',e1,e2,e3⟩:=yD (by simpa using hl) (fun i p u h1 h2=>hn (i+1) p u (by simpa using h1) (by simpa using h2)) h;exact⟨i+1,p',by simp only[fJ];rw[h0,if_neg (by simp[hc]),e1];rfl,by simpa using e2,by simpa using e3⟩
def iE(ss:List ByteArray)(j n:Nat):Array Value:=((ss.take j).map Value.string++List.replicate (n-j) (Value.string ⟨#[]⟩)).toArray
theorem X6{ss:List ByteArray}{j n:Nat}(hn:ss.length=n)(hj:j<n):(iE ss j n)[j]?=some (.string ⟨#[]⟩):=by
 unfold iE;simp only[List.getElem?_toArray];obtain⟨m,hm⟩:∃m,n-j=m+1:=⟨n-j-1,by omega⟩;have hl:(List.map Value.string (ss.take j)).length=j:=by simp;omega
 rw[List.getElem?_append_right (by omega),hl,Nat.sub_self,hm,List.replicate_succ];rfl
theorem X7{ss:List ByteArray}{j n:Nat}{s:ByteArray}(hn:ss.length=n)(hj:j<n)(hs:ss[j]?=some s):(iE ss j n).setIfInBounds j (.string s)=iE ss (j+1) n:=by
 unfold iE;simp only[List.setIfInBounds_toArray];congr 1;obtain⟨m,hm⟩:∃m,n-j=m+1:=⟨n-j-1,by omega⟩;rw[hm,show n-(j+1)=m by omega,List.take_add_one,hs,List.map_append,List.set_append];have hl:(List.map Value.string (ss.take j)).length=j:=by simp;omega
 rw[if_neg (by omega),hl,Nat.sub_self];simp[List.replicate_succ]
theorem X5{ss:List ByteArray}{n i:Nat}{s:ByteArray}(hn:ss.length=n)(hs:ss[i]?=some s):(iE ss n n)[i]?=some (.string s):=by
 have hi:=(lgS.1 hs).1;unfold iE;simp only[List.getElem?_toArray,Nat.sub_self,List.replicate_zero,List.append_nil];rw[<-hn,List.take_length];simp[hs]
end Bk
namespace Go.Proofs.YtakfdnnlhjhcfaaGreatDoor
open Go.RowKit Bk
section
variable{w0 w w':World}{B0 r fuel f m:Nat}{R:Rn}{S:Sv}{σ:PSt}{kd:Nat->Int}
theorem GQ:(Tryz.prog.info? 9).map (fun i=>(i.zero,i.size,i.bytes))=some (some (.string ⟨#[]⟩),1,16):=by kernel_rfl
theorem LE(h:RAt w0 B0 w r R S σ fuel f kd m){A A2:Option Addr}{n n2 c1 c2:Nat}{ps:List Vr}{ss:List ByteArray}(hv:VsAt w w.heap.size A ps)(hn:ps.length=n)(OG:SsAt w w.heap.size A2 ss)(hn2:ss.length=n2)(mI:n<=32):Calls Tryz.prog 132 #[.pointer (some ⟨R.st,0,none⟩),.slice A n c1,.slice A2 n2 c2] w fun e w'=>pS w0 B0 w r R S fuel f (dB ps ss σ) e w':=by
 have hm:=h.fm;have:=TF (c1:=c1) (c2:=c2) h.on h.B h.ok (by omega) hv hn OG hn2 mI;rw[h.st]at this;exact this.mono fun e w' hr=>h.opS hr
theorem LH(h:RAt w0 B0 w r R S σ fuel f kd m):Calls Tryz.prog 133 #[.pointer (some ⟨R.st,0,none⟩)] w fun e w'=>pS w0 B0 w r R S fuel f (dY σ) e w':=by
 have hm:=h.fm;have:=TG h.on h.ok (by omega);rw[h.st]at this;exact this.mono fun e w' hr=>h.opS hr
theorem RAt.count(h:RAt w0 B0 w r R S σ fuel f kd m){g n cp i:Nat}(he:R.ent=.slice (some ⟨g,0,none⟩) n cp)(v:Int):RAt w0 B0 (w.setCell ⟨g,i,none⟩ (.int .i64 v)) r R S σ fuel f kd m∧Fr (RO S R r) w (w.setCell ⟨g,i,none⟩ (.int .i64 v)):=by
 obtain⟨g',cp',n',xs,e1,e2,e3,e4,e5⟩:=h.ent;rw[e1]at he;injection he with he1 he2 VT;injection he1 with he1;injection he1 with he1 _ _;subst he1;subst he2;subst VT;have cR:B0<=g':=(bH (k:=g') e2 (by rw[e1];rfl)).1;have hf:Fr (fun k=>k=g') w (w.setCell ⟨g',i,none⟩ (.int .i64 v)):=by refine Fr.set ?_ ?_ _;rotate_left;exact rfl;exact Fr.refl _ _
 refine⟨⟨h.base.trans (hf.below h.B fun k hk=>by rw[hk];exact cR),hf.blk h.blk (fun e=>e5 e.symm),h.on.other hf fun k _ hk=>by rw[hk];exact e4,h.ok,h.st,h.ro,h.rb,⟨g',cp',n',xs.set i v,e1,?_,by simpa using e3,e4,e5⟩,h.ff,h.fm,h.fu,h.m0,h.kxF (Sv.Ext.refl _ _) hf.size,h.kpF hf fun b _ _ h3 h4=>h3 (by rw[h4,e1];rfl)⟩,hf.mono fun k hk=>.inr (.inr ?_)⟩
 ·rw[<-qL,e1]
  rw[e1]at e2;exact qP e2 i _
 ·show R.ent.ownBlock=some k
  rw[e1,hk];rfl
theorem Eb{procs:List Pr}{pcs:List Pc}{n d d0:Nat}(mQ:G4 w0 B0 r R fuel procs n)(mU:KD w0 B0 d0 R procs pcs)(h:RAt w0 B0 w r R S σ fuel f kd m)(hf:f<n+1)(back:Bool){op:Int}{s:ByteArray}{args:List ByteArray}{rest:Sq}{x:Nd}(hx:StAt w0 B0 (d+1) (.cal op s args rest) x)(hk:KV w0 B0 (d+1) x)(pT:∃u,procs.find? (fun p=>p.nm.toList==s.toList)=some u):
  Calls Tryz.prog 107 #[.pointer (some ⟨r,0,none⟩),.agg #[.int .u8 x.k,.int .i64 x.num,.string x.nm,.slice x.A x.n x.cap],.bool back] w fun en w'=>RunP w0 B0 w r R S fuel (p8 procs (execP procs n) back s args σ f) en w':=by
 obtain⟨fY,Rg,hnm,hnb,V3,ZS,N3⟩:=hx;clear fY Rg hnb;obtain⟨u,hu⟩:=pT;obtain⟨i,p,hpi,hp,hpu⟩:=yD mU.len (fun i p u h1 h2=>(mU.pr i p u h1 h2).1) hu;obtain⟨e1,e2,e3,e4,e5⟩:=mU.pr i p u hp hpu;obtain⟨V,nv,cv,hV⟩:=mU.v;obtain⟨Q,cq,hQ,Gz⟩:=mU.q;obtain⟨EA,ecp,hE⟩:=mU.e;obtain⟨⟨pg,po,hPA,Jb,pc0,pc1,pc2,pc3,pc4,pc5⟩,oJ,WA,DP,Sd,NT⟩:=Gz i p hp;obtain⟨eg,ecp',en,exs,Uk,hE2,hE3,hE4,hE5⟩:=h.ent;have f9:x.n<=x.cap∧x.cap<=maxLen:=⟨hk.2.2.1,hk.2.2.2.1⟩;rw[hE]at Uk;injection Uk with Uk aAf Pi;subst Uk;subst aAf;subst Pi;have hi:i<pcs.length:=(lgS.1 hp).1;have mI:=mU.n;unfold p8;rw[hu];dsimp only;have H1:Hid (∀W,Below w.heap.size w W->RAt w0 B0 W r R S σ fuel f kd m):=aA fun W hW=>h.next hW h.B
 have oZ:Hid (∀b,w.heap.size<=b->¬RO S R r b):=aA fun b hb=>h.nro hb
 have XZ:Hid (∀j,j<x.n->∃y,Kid w0 B0 x j y∧args[j]?=some y.nm):=aA fun j hj=>by
  obtain⟨y,hy,hv⟩:=N3 j (args[j]'(by omega)) (dR (by omega));exact⟨y,hy,by rw[dR (by omega),hv.2.2.1]⟩
 have CK:Hid (∀W,Below B0 w0 W->Calls Tryz.prog 32 #[.agg #[.slice V nv cv,.slice Q pcs.length cq,.int .u8 R.m.k,.int .i64 R.m.num,.string R.m.nm,.slice R.m.A R.m.n R.m.cap],.string s] W fun e w''=>e=.returned (.int .i64 i)∧Below W.heap.size W w''):=aA fun W hW=>by
  have:=zZ mU.b V nv cv Q pcs.length cq pcs Gz rfl (by omega) R.m s W hW;rw[show fB s pcs=(i:Int) by unfold fB;rw[hpi]]at this;exact this
 have V5:=aA (fun W S' σ' f' kd' m'(h:RAt w0 B0 W r R S' σ' fuel f' kd' m')(hf:f'<n)=>mQ W S' σ' f' kd' m' h hf back d0 u.body p.body e3 NT e5);have JW:Hid (∀W S σ f kd m,RAt w0 B0 W r R S σ fuel f kd m->Blk W r 86 #[.slice V nv cv,.slice Q pcs.length cq,.int .u8 R.m.k,.int .i64 R.m.num,.string R.m.nm,.slice R.m.A R.m.n R.m.cap,.pointer (some ⟨R.st,0,none⟩),.int .i64 ((fuel:Int)-f),.int .i64 fuel,.slice (some ⟨eg,0,none⟩) pcs.length ecp]):=aA fun W S σ f kd m h=>by
  have:=h.blk;unfold Rn.cells at this;rw[hV,hQ,hE]at this;exact this
 have HEC:Hid (∀W S σ f kd m,RAt w0 B0 W r R S σ fuel f kd m->(∃v,W.cell? ⟨eg,i,none⟩=some (.int .i64 v))∧W.frozen? ⟨eg,i,none⟩=false):=aA fun W S σ f kd m h=>by
  obtain⟨g',cp',n',xs,h1,h2,h3,_,_⟩:=h.ent;rw[hE]at h1;injection h1 with h1 yI aAd;injection h1 with h1;injection h1 with h1 _ _;subst h1;subst yI;subst aAd;rw[hE]at h2;obtain⟨cur,hb,hc⟩:=nZ h2;have hx:(aC xs)[i]?=some (.int .i64 (xs[i]'(by omega))):=by simp[aC,dR (show i<xs.length by omega)]
  exact⟨⟨_,by rw[hb.cell];exact hc i _ hx⟩,hb.frozen i⟩
 have Kq:Hid (∀W S σ f kd m v,RAt w0 B0 W r R S σ fuel f kd m->RAt w0 B0 (W.setCell ⟨eg,i,none⟩ (.int .i64 v)) r R S σ fuel f kd m∧Fr (RO S R r) W (W.setCell ⟨eg,i,none⟩ (.int .i64 v))):=aA fun W S σ f kd m v h=>h.count hE v
 have SS:Hid (∀W,Below B0 w0 W->B0<=W.heap.size->VsAt W W.heap.size p.V u.params):=aA fun W hW hB=>by
  rw[<-e2];exact fun j v hj=>let ⟨g,o,h1,h2,h3⟩:=(oJ.next hW) j v hj;⟨g,o,h1,dX h2 hB,h3⟩
 have CI:Hid (∀W,Below B0 w0 W->W.cell? ⟨pg,po+i*6,none⟩=some (.string p.nm)∧W.cell? ⟨pg,po+i*6+1,none⟩=some (.slice p.V p.nv p.cv)∧W.cell? ⟨pg,po+i*6+2,none⟩=some (.int .u8 p.body.k)∧W.cell? ⟨pg,po+i*6+3,none⟩=some (.int .i64 p.body.num)∧W.cell? ⟨pg,po+i*6+4,none⟩=some (.string p.body.nm)∧W.cell? ⟨pg,po+i*6+5,none⟩=some (.slice p.body.A p.body.n p.body.cap)):=aA fun W hW=>⟨(hW.cell (p:=⟨pg,po+i*6,none⟩) Jb).trans pc0,(hW.cell (p:=⟨pg,po+i*6+1,none⟩) Jb).trans pc1,(hW.cell (p:=⟨pg,po+i*6+2,none⟩) Jb).trans pc2,(hW.cell (p:=⟨pg,po+i*6+3,none⟩) Jb).trans pc3,(hW.cell (p:=⟨pg,po+i*6+4,none⟩) Jb).trans pc4,(hW.cell (p:=⟨pg,po+i*6+5,none⟩) Jb).trans pc5⟩
 have hul:u.params.length=p.nv:=by rw[<-e2,WA]
 have hp8:p.nv<=8:=by rw[<-WA];exact e4
 obtain⟨QT,hQT⟩:∃QT,(PO.seq ((Bk.liftM (dB u.params args)).seq ((execP procs n back u.body).seq (PO.seq (Bk.liftM dY))))) σ f=QT:=⟨_,rfl⟩;rw[hQT];generalize execP procs n back u.body=MB at *;generalize u.params=ups at *;have tG:=aA hQT;have G6:=aA hf;have HUL:=aA hul;have Uf:=aA V3.symm;have HB:=aA (show Below B0 w0 w∧B0<=w.heap.size from⟨h.base,h.B⟩);clear hQT hf hul h mQ mU N3 hu hpi hp hpu e1 e2 e3 e4 e5 hV hQ Gz hE pc0 pc1 pc2 pc3 pc4 pc5 oJ WA DP Sd NT hE2 hE3 hE4 hE5 hk V3;generalize pcs.length=nq at *;clear pcs;obtain⟨pnm,pV,pnv,pcv,pvs,⟨bk,bnum,bnm,bA,bn,bc⟩⟩:=p;obtain⟨xk,num,nm,A,nn,cap⟩:=x;dsimp only at *;subst hnm;subst hPA;unfold maxLen at f9;obtain⟨rX,rY⟩:=f9;have hn8:nn<=8:=ZS;clear ZS;obtain⟨i1,li,lz,ls,lb⟩:=info_parts GQ;have mkA:∀W:World,(Instr.makeSlice 181 (.int .i64 (nn:Int)) (.int .i64 (nn:Int))).run Tryz.prog W=.ok (.slice (some ⟨W.heap.size,0,none⟩) nn nn) (W.alloc (.cells (madeCells #[.string ⟨#[]⟩] nn) 9)):=fun W=>by
  have:=kA (P:=Tryz.prog) 181 9 i1 _ Tryz.underlying181 li lz .i64 .i64 nn nn (aH _) (by rw[lb];omega) (by omega) W;rw[ls,Nat.mul_one]at this;exact this
 have MK0:Hid (madeCells #[.string ⟨#[]⟩] nn=iE args 0 nn):=aA (by
  refine Array.ext (by simp[madeCells,iE]) fun i h1 h2=>?_
  simp[madeCells,iE,Nat.mod_one])
 clear li lz ls lb;go_enter Tryz.func107,Tryz.ntmps107;go_upto_region 1 with fail;refine aB ?_;intro w1 aF;have aG:Below w.heap.size w w1:=(by rw[aF];go_grown);have K1:Blk w1 w.heap.size 26 #[.int .u8 xk,.int .i64 num,.string nm,.slice A nn cap]:=(by rw[aF];exact aQ);have aO:=aA aG;have a9:=aA K1;have oM:=aA (oZ.out w.heap.size (aH _));obtain⟨aL,aJ,aK⟩:=K1.open_;clear aF aG K1;go_upto_region 2 with fail;refine aB ?_;intro w2 eD;have RH:Hid (Blk w2 w1.heap.size 9 (iE args 0 nn)):=aA (by rw[eD,<-MK0.out];exact Blk.new _ _ _);have aP:=aA (aO.out.next (show Below w1.heap.size w1 w2 by rw[eD];go_grown));have K2:=a9.out.next (show Below w1.heap.size w1 w2 by rw[eD];go_grown);have bI:=aA K2;have lP:w.heap.size<w1.heap.size:=a9.out.lt;clear eD aJ aL aK MK0 mkA a9 aO;generalize w1.heap.size=ba at *;have dU:Hid (∀W,Fr (fun k=>k=ba) w2 W->Below w.heap.size w W∧Blk W w.heap.size 26 #[.int .u8 xk,.int .i64 num,.string nm,.slice A nn cap]):=aA fun W hW=>⟨aP.out.trans (hW.below aP.out.size fun k hk=>by omega),hW.blk bI.out (by omega)⟩
 have HNA:=aA (oZ.out ba (by omega));obtain⟨aL,aJ,aK⟩:=K2.open_;clear K2 bI;go_wp2_with fail;clear aJ aL aK
 go_loopw [18] (fun v18 wr=>∃j:Nat,j<=nn∧v18=.int .i64 j∧Blk wr ba 9 (iE args j nn)∧Fr (fun k=>k=ba) w2 wr) (fun v _=>nn-(intOf v).toNat)
 case atStart=>exact⟨0,fI _,rfl,RH.out,Fr.refl _ _⟩
 case round=>
  obtain⟨j,hj,rfl,ha,gD⟩:=hrel;obtain⟨jL,kbi⟩:=dU.out wr gD;have HA:=aA ha;have s8:=aA gD;have cG:=aA jL;have YA:=aA kbi;clear gD jL kbi;by_cases eI:j<nn
  ·obtain⟨y,hy,hay⟩:=XZ.out j eI
   have Yt:=aA (X7 (n:=nn) Uf.out eI hay);have ca:wr.cell? ⟨ba,j,none⟩=some (.string ⟨#[]⟩):=by rw[ha.cell];exact X6 Uf.out eI
   have fa:=ha.frozen j;have za:=ha.lt;obtain⟨g,o,AE,cR,hcl⟩:=hy;have Pt:=HB.out.1.trans (cG.out.mono HB.out.2);have y0:=(Pt.cell (p:=⟨g,o+j*4,none⟩) cR).trans (hcl 0 _ rfl);have y1:=(Pt.cell (p:=⟨g,o+j*4+1,none⟩) cR).trans (hcl 1 _ rfl);have y2:=(Pt.cell (p:=⟨g,o+j*4+2,none⟩) cR).trans (hcl 2 _ rfl);have y3:=(Pt.cell (p:=⟨g,o+j*4+3,none⟩) cR).trans (hcl 3 _ rfl);have i0:(0:Int)<=(j:Int):=by omega
   have i1:(j:Int)<(nn:Int):=by omega
   obtain⟨yk,ynum,ynm,yA,yn,yc⟩:=y;dsimp only at *;subst AE;clear hay Pt hcl ha CK V5 JW HEC Kq SS CI tG;go_wp2_with fail;exact⟨⟨j+1,by omega,by first|rfl|go_num,(by rw[<-Yt.out];first|exact((HA.out.alloc _).set_ _ _)|exact((HA.out.set_ _ _).alloc _)),(by repeat (first|exact s8.out|apply Fr.alloc|(refine Fr.set ?_ ?_ _;rotate_left;exact rfl)))⟩,(by simp[intOf];try omega)⟩
  ·obtain rfl:j=nn:=(by omega)
   have nK:=aA (H1.out wr cG.out);have RI:Hid (∀W,Below wr.heap.size wr W->Below B0 w0 W):=aA fun W hW=>HB.out.1.trans ((cG.out.next hW).mono HB.out.2)
   have HRK:=aA (JW.out wr S σ f kd m nK.out);clear ha XZ eI;go_wp2_with fail;refine wp_region_held_drew (S:=fun W=>Below wr.heap.size wr W) (by kernel_rfl) ((aM _ _).drew) (fun hH=>?_);refine aE ?_;intro wa bP;have hX:Below wr.heap.size wr wa:=by rw[bP];exact(aM _ _).drew
   replace hH:=(show Below wr.heap.size wr wa by rw[bP];exact hH);clear bP;refine aW 0 (v:=?_) rfl hH ?_;(try simp only[PU,aD])
   refine aW 1 (v:=?_) rfl hH ?_;(try simp only[PU,aD])
   refine aW 2 (v:=?_) rfl hH ?_;(try simp only[PU,aD])
   refine cH 3 (v:=?_) rfl ?hy hH ?_
   case hy=>(intro bW aN;have t:=(HRK.out.next aN).cell;clear aN;go_simp;try with_reducible rfl)
   (try simp only[PU,aD])
   refine aW 4 (v:=?_) rfl hH ?_;(try simp only[PU,aD])
   refine cH 5 (v:=?_) rfl ?hy hH ?_
   case hy=>(intro bW aN;have t:=(YA.out.next aN).cell;clear aN;go_simp;try with_reducible rfl)
   (try simp only[PU,aD])
   refine cE 6 (by kernel_rfl) rfl (fun K hK=>?_);go_simp;refine(CK.out _ (RI.out _ hX)).mono ?_;rintro en wb ⟨rfl,aR⟩;refine hK.out _ _ (hX.next aR) (fun hH=>?_);clear hK;(try simp only[PU,aD])
   refine aW 7 (v:=?_) rfl hH ?_;(try simp only[PU,aD])
   refine wpAnyH_done (by kernel_rfl) ?_ _;have xA:=RI.out _ hH;have mG:=aA (cG.out.next hH);have YH:=aA (H1.out _ mG.out);obtain⟨aL,aJ,aK⟩:=(JW.out _ S σ f kd m YH.out).open_;obtain⟨p0,p1,p2,p3,p4,p5⟩:=CI.out _ xA;have HA6:=aA (HA.out.next hH);have i0:(0:Int)<=(i:Int):=by omega
   have i1:(i:Int)<(nq:Int):=by omega
   have Vi:=mG.out.size;clear hX hH aR xA YA HRK nK;go_upto_region 9 with fail;refine aB ?_;intro w7 hw7;have pE:Below wb.heap.size wb w7:=(by rw[hw7];go_grown);have EO:Hid (Blk w7 wb.heap.size 64 #[.string pnm,.slice pV pnv pcv,.int .u8 bk,.int .i64 bnum,.string bnm,.slice bA bn bc]):=aA (by rw[hw7];exact Blk.new _ _ _);have HA7:=aA (HA6.out.next pE);have V4:=aA (mG.out.next pE);have X1:=aA (H1.out w7 V4.out);have SC:=aA (oZ.out wb.heap.size Vi);have E6:=aA (Fr.of (O:=RO S R r) V4.out);have wZ:Hid (∀S5,S.Ext S5 w7->S.Ext S5 w):=aA fun S5 h=>⟨h.1,fun k hk=>h.2 k (dX hk V4.out.size)⟩
   clear hw7 pE YH mG HA6 HA CI oZ H1 aL aJ aK p0 p1 p2 p3 p4 p5 cG RI dU aP s8 RH Vi;generalize wb.heap.size=b10 at *;go_wp2_with fail;cases f with
   |zero=>
    obtain rfl:QT=.error 18:=tG.out.symm;have HC:=aA (g9 X1.out);unfold bZ at HC;refine HC.out.mono ?_;rintro en w8 ⟨rfl,vQ⟩;have V8:=aA vQ;clear vQ;go_wp2_with fail;exact⟨rfl,rfl,V8.out⟩
   |succ f=>
    have JJ:Hid (f<n):=aA (by have:=G6.out;omega);have iN:Hid ((match dB ups args σ with|.error e=>(.error e:Except Int (PSt×Nat))|.ok σ'=>(MB.seq (PO.seq (Bk.liftM dY))) σ' f)=QT):=aA (by
     rw[<-tG.out];show _=((Bk.liftM (dB ups args)).seq (MB.seq (PO.seq (Bk.liftM dY)))) σ f;unfold Mo.seq Bk.liftM;cases dB ups args σ<;>rfl)
    clear tG G6;refine(jN X1.out).mono ?_;rintro en w8 ⟨rfl,hr8,lQ⟩;have j7:=aA hr8;have pR:Hid (Fr (RO S R r) w7 w8):=aA (lQ.mono fun k hk=>.inr (.inl hk));clear hr8 lQ X1;have HA8:=aA (pR.out.blk HA7.out HNA.out);have U1:=aA (pR.out.blk EO.out SC.out);have t8:=aA (fun(y:Int)(hy:y≠0) W=>kJ (.pointer (some ⟨r,0,none⟩)) y hy W);have kC:=aA (fun W=>kI (.pointer (some ⟨r,0,none⟩)) W);unfold bZ at t8;have W8:Hid (ups.length<=m):=aA (by have:=j7.out.m0;have:=HUL.out;omega);have fN:Hid (∀W,Below w8.heap.size w8 W->Calls Tryz.prog 132 #[.pointer (some ⟨R.st,0,none⟩),.slice pV pnv pcv,.slice (some ⟨ba,0,none⟩) j j] W fun e w'=>pS w0 B0 W r R S fuel f (dB ups args σ) e w'):=aA fun W hW=>by
     have hrW:=j7.out.next hW j7.out.B;have haW:=HA8.out.next hW;refine LE hrW (SS.out W hrW.base hrW.B) HUL.out ?_ Uf.out (by omega);exact fun i s hs=>⟨ba,0,rfl,haW.lt,by rw[haW.cell,Nat.zero_add];exact X5 Uf.out hs⟩
    obtain⟨QO,hQO⟩:∃QO,dB ups args σ=QO:=⟨_,rfl⟩;rw[hQO]at fN iN;have JU:=aA hQO;clear hQO;cases QO with
    |error eo=>
     obtain rfl:QT=.error eo:=iN.out.symm;unfold pS at fN;dsimp only at fN;go_wp2_with fail;refine wp_region_held_drew (S:=fun W=>Fr (RO S R r) w8 W∧W.cell? ⟨r,6,none⟩=some (.pointer (some ⟨R.st,0,none⟩))) (by kernel_rfl) (⟨(Fr.refl _ _).drew,j7.out.cell6⟩) (fun hH=>?_);refine aE ?_;intro wa bP;have hX:Below w8.heap.size w8 wa:=by rw[bP];exact(aM _ _).drew
     replace hH:=(show Fr (RO S R r) w8 wa∧wa.cell? ⟨r,6,none⟩=some (.pointer (some ⟨R.st,0,none⟩)) by rw[bP];exact hH);clear bP;refine aW 0 (v:=?_) rfl hH ?_;(try simp only[PU,aD])
     refine aW 1 (v:=?_) rfl hH ?_;(try simp only[PU,aD])
     refine aW 2 (v:=?_) rfl hH ?_;(try simp only[PU,aD])
     refine aW 3 (v:=?_) rfl hH ?_;(try simp only[PU,aD])
     refine cH 4 (v:=?_) rfl ?hy hH ?_
     case hy=>(intro bW aN;have t:=aN.2;clear aN;go_simp;try with_reducible rfl)
     (try simp only[PU,aD])
     refine aW 5 (v:=?_) rfl hH ?_;(try simp only[PU,aD])
     refine cH 6 (v:=?_) rfl ?hy hH ?_
     case hy=>(intro bW aN;have t:=(aN.1.blk U1.out SC.out).cell;clear aN;go_simp;try with_reducible rfl)
     (try simp only[PU,aD])
     refine aW 7 (v:=?_) rfl hH ?_;(try simp only[PU,aD])
     refine cE 8 (by kernel_rfl) rfl (fun K hK=>?_);go_simp;refine(fN.out _ hX).mono ?_;rintro en wb_ ⟨rfl,dG,sT,iP,h6⟩;refine hK.out _ _ ⟨(Fr.of hX).trans iP,h6⟩ (fun hH=>?_);clear hK;(try simp only[PU,aD])
     refine cE 9 (by kernel_rfl) rfl (fun K hK=>?_);go_simp;refine(t8.out _ dG _).mono ?_;rintro en wc_ ⟨rfl,rfl⟩;dsimp only;exact⟨rfl,rfl,sT⟩
    |ok σ1=>
     unfold pS at fN;dsimp only at fN iN;go_wp2_with fail;refine wp_region_held_drew (S:=fun W=>Fr (RO S R r) w8 W∧W.cell? ⟨r,6,none⟩=some (.pointer (some ⟨R.st,0,none⟩))) (by kernel_rfl) (⟨(Fr.refl _ _).drew,j7.out.cell6⟩) (fun hH=>?_);refine aE ?_;intro wa bP;have hX:Below w8.heap.size w8 wa:=by rw[bP];exact(aM _ _).drew
     replace hH:=(show Fr (RO S R r) w8 wa∧wa.cell? ⟨r,6,none⟩=some (.pointer (some ⟨R.st,0,none⟩)) by rw[bP];exact hH);clear bP;refine aW 0 (v:=?_) rfl hH ?_;(try simp only[PU,aD])
     refine aW 1 (v:=?_) rfl hH ?_;(try simp only[PU,aD])
     refine aW 2 (v:=?_) rfl hH ?_;(try simp only[PU,aD])
     refine aW 3 (v:=?_) rfl hH ?_;(try simp only[PU,aD])
     refine cH 4 (v:=?_) rfl ?hy hH ?_
     case hy=>(intro bW aN;have t:=aN.2;clear aN;go_simp;try with_reducible rfl)
     (try simp only[PU,aD])
     refine aW 5 (v:=?_) rfl hH ?_;(try simp only[PU,aD])
     refine cH 6 (v:=?_) rfl ?hy hH ?_
     case hy=>(intro bW aN;have t:=(aN.1.blk U1.out SC.out).cell;clear aN;go_simp;try with_reducible rfl)
     (try simp only[PU,aD])
     refine aW 7 (v:=?_) rfl hH ?_;(try simp only[PU,aD])
     refine cE 8 (by kernel_rfl) rfl (fun K hK=>?_);go_simp;refine(fN.out _ hX).mono ?_;rintro en wb_ ⟨rfl,⟨S5,mV,sW⟩,iP,h6⟩;refine hK.out _ _ ⟨(Fr.of hX).trans iP,h6⟩ (fun hH=>?_);clear hK;(try simp only[PU,aD])
     have tH:=aA mV;have gP:=aA sW;clear mV sW iP h6;refine cE 9 (by kernel_rfl) rfl (fun K hK=>?_);go_simp;refine(kC.out _).mono ?_;rintro en wc_ ⟨rfl,rfl⟩;refine hK.out _ _ hH (fun hH=>?_);clear hK;(try simp only[PU,aD])
     refine wpAnyH_done (by kernel_rfl) ?_ _;have nK:=aA (tH.out kd m (rR j7.out.ok W8.out JU.out) j7.out.fm j7.out.m0);have kD:Hid (S.Ext S5 w7):=aA ⟨gP.out.1,fun k hk=>gP.out.2 k (dX hk (fC pR.out.size hX.size))⟩;have s7:=aA (pR.out.trans hH.1);clear hX hH tH gP fN j7 pR U1 HA8;obtain⟨aL,aJ,aK⟩:=(JW.out _ S5 σ1 f kd m nK.out).open_;obtain⟨⟨ev,e0⟩,ef⟩:=HEC.out _ S5 σ1 f kd m nK.out;go_upto_region 12 with fail;refine aB ?_;intro w11 Se;have Mp:=aA (show RAt w0 B0 w11 r R S5 σ1 fuel f kd m∧Fr (RO S5 R r) wc_ w11 by rw[Se];exact Kq.out _ _ _ _ _ _ _ nK.out);have EK:=aA (RO.fr kD.out s7.out Mp.out.2);have Mm:=aA Mp.out.1;have gK:Hid (∀W,Fr (RO S R r) w7 W->Blk W b10 64 #[.string pnm,.slice pV pnv pcv,.int .u8 bk,.int .i64 bnum,.string bnm,.slice bA bn bc]):=aA fun W hW=>hW.blk EO.out SC.out
     clear Se nK s7 Mp aL aJ aK e0 ef;obtain⟨aL,aJ,aK⟩:=(gK.out _ EK.out).open_;have HC:=aA (V5.out _ S5 σ1 f _ _ Mm.out JJ.out);obtain⟨QB,hQB⟩:∃QB,MB σ1 f=QB:=⟨_,rfl⟩;unfold Mo.seq at iN;rw[hQB]at HC iN;clear hQB;go_wp2_with fail;cases QB with
     |error e4=>
      obtain rfl:QT=.error e4:=iN.out.symm;unfold RunP bZ at HC;dsimp only at HC;refine HC.out.mono ?_;rintro en w12 ⟨rfl,YY⟩;have Kh:=aA YY;clear YY;go_wp2_with fail;exact⟨rfl,rfl,Kh.out⟩
     |ok r4=>
      obtain⟨σ2,f2⟩:=r4;unfold RunP at HC;dsimp only at HC iN;refine HC.out.mono ?_;rintro en w12 ⟨rfl,S7,kd7,m7,JC,OJ,N7⟩;have rL:=aA JC;have Wi:=aA (RO.fr kD.out EK.out N7);have Di:=aA (kD.out.trans OJ EK.out.size);clear JC OJ N7 HC aL aJ aK kD EK Mm;go_wp2_with fail;cases f2 with
      |zero=>
       obtain rfl:QT=.error 18:=iN.out.symm;have HC:=aA (g9 rL.out);unfold bZ at HC;refine HC.out.mono ?_;rintro en w13 ⟨rfl,YZ⟩;have Ki:=aA YZ;clear YZ;go_wp2_with fail;exact⟨rfl,rfl,Ki.out⟩
      |succ f3=>
       refine(jN rL.out).mono ?_;rintro en w13 ⟨rfl,hr8,lQ⟩;have JV:=aA hr8;have Lb:Hid (Fr (RO S R r) w7 w13):=aA (RO.fr Di.out Wi.out (lQ.mono fun k hk=>.inr (.inl hk)));clear hr8 lQ rL;have F0:Hid ((match dY σ2 with|.error e=>(.error e:Except Int (PSt×Nat))|.ok σ'=>.ok (σ',f3))=QT):=aA (by rw[<-iN.out];rfl);clear iN;have fN:=aA (LH JV.out);obtain⟨QO,hQO⟩:∃QO,dY σ2=QO:=⟨_,rfl⟩;rw[hQO]at fN F0;replace JU:=aA hQO;clear hQO;obtain⟨aL,aJ,aK⟩:=(JW.out _ S7 σ2 f3 kd7 m7 JV.out).open_;cases QO with
       |error eo=>
        obtain rfl:QT=.error eo:=F0.out.symm;unfold pS at fN;dsimp only at fN;go_wp2_with fail;refine fN.out.mono ?_;rintro en w14 ⟨rfl,dG,sT,_,_⟩;have RI:=aA sT;have YD:=aA dG;clear sT dG aL aJ aK;go_wp2_with fail;refine(t8.out eo YD.out w14).mono ?_;rintro en w15 ⟨rfl,rfl⟩;go_wp2_with fail;exact⟨rfl,rfl,RI.out⟩
       |ok σ3=>
        obtain rfl:QT=.ok (σ3,f3):=F0.out.symm;unfold pS at fN;dsimp only at fN F0;go_wp2_with fail;refine fN.out.mono ?_;rintro en w14 ⟨rfl,⟨S8,mV,ZS⟩,iP,_⟩;have Yn:=aA (mV kd7 m7 (sF JV.out.ok JU.out) JV.out.fm JV.out.m0);have Zp:=aA (Di.out.trans ZS Lb.out.size);have Wj:=aA (RO.fr Di.out Lb.out iP);clear mV ZS iP aL aJ aK;go_wp2_with fail;refine(kC.out w14).mono ?_;rintro en w15 ⟨rfl,rfl⟩;go_wp2_with fail;refine bodyPost_end (results_none rfl _ _ _) rfl ?_;exact⟨rfl,S8,kd7,m7,Yn.out,wZ.out _ Zp.out,E6.out.trans Wj.out⟩
end
end Go.Proofs.YtakfdnnlhjhcfaaGreatDoor
