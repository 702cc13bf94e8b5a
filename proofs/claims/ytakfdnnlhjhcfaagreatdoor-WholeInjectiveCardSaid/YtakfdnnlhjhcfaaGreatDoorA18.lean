/- Part of the proof. -/
import Derived.Test.YtakfdnnlhjhcfaaGreatDoorA17
set_option linter.unusedVariables false
set_option linter.unusedSimpArgs false
set_option maxRecDepth 100000
set_option maxHeartbeats 4000000
namespace Bk
open Go Go.RowKit
def Sq.cok(procs:List Pr):Sq->Prop
 |.nil=>True
 |.upd _ _ _ r|.swp _ _ r|.stk _ _ _ r|.tap _ _ r=>r.cok procs
 |.cal _ s _ r=>(∃u,procs.find? (fun p=>p.nm.toList==s.toList)=some u)∧r.cok procs
 |.ifs _ a b _ r|.frm _ a b _ r=>a.cok procs∧b.cok procs∧r.cok procs
 |.loc _ _ b _ r|.lst _ b r=>b.cok procs∧r.cok procs
theorem Sq.cok_tl{procs:List Pr}{s:Sq}(h:s.cok procs):s.tl.cok procs:=by
 cases s<;>simp only[Sq.cok,Sq.tl]at h⊢ <;>first|exact h|exact h.2|exact h.2.2
theorem Sq.cok_drop{procs:List Pr}:∀(n:Nat){s:Sq},s.cok procs->(Sq.drop n s).cok procs
 |0,_,h=>h
 |n+1,s,h=>by rw[<-Sq.drop_tl];exact Sq.cok_tl (Sq.cok_drop n h)
def oV(procs:List Pr)(n:Nat)(inner:Bool->Sq->Mo)(back:Bool)(s:Sq)(j:Nat):Mo:=
 if back then sP procs n inner s (s.len-j)else execS procs n inner false (s.drop j)
def Hk(back:Bool)(s:Sq)(j:Nat):Nat:=if back then s.len-1-j else j
theorem XC(procs:List Pr)(n:Nat)(inner:Bool->Sq->Mo)(back:Bool)(s:Sq):execS procs n inner back s=oV procs n inner back s 0:=by
 unfold oV;cases back
 ·rfl
 ·exact vG procs n inner _ s rfl
theorem GW(procs:List Pr)(n:Nat)(inner:Bool->Sq->Mo)(back:Bool)(s:Sq):oV procs n inner back s s.len=xM:=by
 unfold oV;cases back
 ·have:(s.drop s.len)=.nil:=Sq.nil_of_len (by rw[Sq.len_drop];omega)
  simp only[Bool.false_eq_true,if_false];rw[this];rfl
 ·simp only[if_true,Nat.sub_self];rfl
theorem BT(procs:List Pr)(n:Nat)(inner:Bool->Sq->Mo)(back:Bool)(s:Sq)(j:Nat)(hj:j<s.len):oV procs n inner back s j=(jB procs n inner back (s.drop (Hk back s j))).seq (oV procs n inner back s (j+1)):=by
 unfold oV Hk;cases back
 ·simp only[Bool.false_eq_true,if_false]
  rw[M7 _ _ _ _ _ (by rw[Sq.len_drop];omega),Sq.drop_tl];rfl
 ·simp only[if_true]
  obtain⟨k,hk⟩:∃k,s.len-j=k+1:=⟨s.len-j-1,by omega⟩;rw[hk,show s.len-1-j=k by omega,show s.len-(j+1)=k by omega];rfl
theorem Hl{back:Bool}{s:Sq}{j:Nat}(hj:j<s.len):Hk back s j<s.len:=by
 unfold Hk;cases back<;>simp<;>omega
theorem NL{procs:List Pr}{n:Nat}{back:Bool}{s:Sq}{σ σ':PSt}{f f':Nat}(hf:f<n+1)(h:jB procs n (execP procs n) back s σ f=.ok (σ',f')):f'<=f:=by
 have h1:execS procs n (execP procs n) back (s.put .nil)=jB procs n (execP procs n) back s:=by
  cases s<;>first|rfl|(cases back<;>first|exact(Mo.seq_ok _)|rfl)
 rw[<-h1]at h;exact(Fuels.execS procs n (execP procs n) (fun b s=>Fuels.execP procs n b s) back _ σ f hf σ' f' h).1
end Bk
namespace Go.Proofs.YtakfdnnlhjhcfaaGreatDoor
open Go.RowKit Bk
section
variable{w0 w w':World}{B0 r fuel f m:Nat}{R:Rn}{S:Sv}{σ:PSt}{kd:Nat->Int}
theorem RAt.nro(h:RAt w0 B0 w r R S σ fuel f kd m){b:Nat}(hb:w.heap.size<=b):¬RO S R r b:=fun hr=>by
 obtain⟨g,cp,n,xs,e1,e2,_,_,_⟩:=h.ent;rcases hr with hr|hr|hr
 ·have:=(h.on.new b hr).2;omega
 ·have:=h.blk.lt;omega
 ·have:=bT e2 hr;omega
theorem RO.keep{S':Sv}{b:Nat}(hx:S.Ext S' w)(hb:b<w.heap.size)(h:¬RO S R r b):¬RO S' R r b:=fun hr=>by
 refine h ?_;unfold RO at*
 rwa [hx.2 b hb]at hr
def G4(w0:World)(B0 r:Nat)(R:Rn)(fuel:Nat)(procs:List Pr)(n:Nat):Prop:=
 ∀(w:World)(S:Sv)(σ:PSt)(f:Nat)(kd:Nat->Int)(m:Nat),RAt w0 B0 w r R S σ fuel f kd m->f<n->∀(back:Bool)(d:Nat)(s:Sq)(x:Nd),SqAt w0 B0 d s x->KV w0 B0 (d+1) x->s.cok procs->
  Calls Tryz.prog 44 #[.pointer (some ⟨r,0,none⟩),.agg #[.int .u8 x.k,.int .i64 x.num,.string x.nm,.slice x.A x.n x.cap],.bool back] w fun en w'=>RunP w0 B0 w r R S fuel (execP procs n back s σ f) en w'
def YQ(w0:World)(B0 r:Nat)(R:Rn)(fuel:Nat)(procs:List Pr)(n:Nat):Prop:=
 ∀(w:World)(S:Sv)(σ:PSt)(f:Nat)(kd:Nat->Int)(m:Nat),RAt w0 B0 w r R S σ fuel f kd m->f<n+1->∀(back:Bool)(d:Nat)(s:Sq)(x:Nd),StAt w0 B0 d s x->KV w0 B0 d x->s.cok procs->
  Calls Tryz.prog 67 #[.pointer (some ⟨r,0,none⟩),.agg #[.int .u8 x.k,.int .i64 x.num,.string x.nm,.slice x.A x.n x.cap],.bool back] w fun en w'=>RunP w0 B0 w r R S fuel (jB procs n (execP procs n) back s σ f) en w'
theorem TM{procs:List Pr}{n:Nat}(hs:YQ w0 B0 r R fuel procs n):G4 w0 B0 r R fuel procs (n+1):=by
 intro w S σ f kd m h hf back d s x hx hk pT;have HS:Hid (∀(W:World)(S:Sv)(σ:PSt)(f:Nat)(kd:Nat->Int)(m:Nat),RAt w0 B0 W r R S σ fuel f kd m->f<n+1->∀i y,i<s.len->Kid w0 B0 x i y->Calls Tryz.prog 67 #[.pointer (some ⟨r,0,none⟩),.agg #[.int .u8 y.k,.int .i64 y.num,.string y.nm,.slice y.A y.n y.cap],.bool back] W fun en w'=>RunP w0 B0 W r R S fuel (jB procs n (execP procs n) back (s.drop i) σ f) en w'):=aA fun W S σ f kd m h hf i y hi hy=>by
  obtain⟨y',hy',hst⟩:=hx.2.2 i hi;obtain rfl:=Kid.one hy hy';obtain⟨y2,hy2,tP⟩:=hk.2.2.2.2.2 i (by rw[hx.2.1];exact hi);obtain rfl:=Kid.one hy hy2;exact hs W S σ f kd m h hf back d (s.drop i) y hst tP (Sq.cok_drop i pT)
 have XZ:Hid (∀i,i<s.len->∃y,Kid w0 B0 x i y):=aA fun i hi=>let ⟨y,hy,_⟩:=hx.2.2 i hi;⟨y,hy⟩
 obtain⟨q,hq⟩:∃q,execP procs (n+1) back s σ f=q:=⟨_,rfl⟩;rw[hq];have HQ:Hid (oV procs n (execP procs n) back s 0 σ f=q):=aA (by rw[<-XC];exact hq);have HR:=aA h;have GK:x.n=s.len:=hx.2.1;have f9:x.n<=x.cap∧x.cap<=maxLen:=⟨hk.2.2.1,hk.2.2.2.1⟩;unfold maxLen at f9;obtain⟨rX,rY⟩:=f9;have Ro:=h.blk.lt;clear h hx hk hs hq pT;obtain⟨k,num,nm,A,nk,cap⟩:=x;dsimp only at *;have Mb:=aA GK;clear GK;go_enter Tryz.func44,Tryz.ntmps44;go_upto_region 1 with fail;refine aB ?_;intro w1 aF;have aG:Below w.heap.size w w1:=(by rw[aF];go_grown);have K1:Blk w1 w.heap.size 26 #[.int .u8 k,.int .i64 num,.string nm,.slice A nk cap]:=(by rw[aF];exact aQ);have a9:=aA K1;have aO:=aA aG;have hs1:=aG.size;clear aF aG;obtain⟨aL,aJ,aK⟩:=K1.open_;have aF:IntKind.i64.wrap ((nk:Int)-1)=(nk:Int)-1:=by
  by_cases h0:nk=0
  ·subst h0;decide
  ·exact wrap_small _ (by omega) (by omega)
 go_wp2_with fail;have rC:Hid (RAt w0 B0 w1 r R S σ fuel f kd m):=aA (HR.out.next aO.out HR.out.B);have lF:Hid (¬RO S R r w.heap.size):=aA (HR.out.nro (aH _));clear aJ aL aK K1
 go_loopw [15] (fun v15 wr=>∃(j:Nat)(S':Sv)(σ':PSt)(f':Nat)(kd':Nat->Int)(m':Nat),j<=nk∧v15=.int .i64 j∧RAt w0 B0 wr r R S' σ' fuel f' kd' m'∧f'<=f∧S.Ext S' w1∧Fr (RO S R r) w1 wr∧oV procs n (execP procs n) back s j σ' f'=q) (fun v _=>nk-(intOf v).toNat)
 case atStart=>exact⟨0,S,σ,f,kd,m,fI _,rfl,rC.out,aH _,Sv.Ext.refl _ _,Fr.refl _ _,HQ.out⟩
 case round=>
  obtain⟨j,S',σ',f',kd',m',hj,rfl,hr,ZF,hx,gD,sV⟩:=hrel;have nJ:=aA hr;have zK:=aA hx;have lG:=aA gD;have j6:=aA sV;have K1:=lG.out.blk a9.out lF.out;obtain⟨aL,aJ,aK⟩:=K1.open_;clear hr hx gD sV K1;by_cases e9:j<nk
  ·have hjs:j<s.len:=by rw[<-Mb.out];exact e9
   have wQ:=aA (BT procs n (execP procs n) back s j hjs);have mT:=Hl (back:=back) hjs;have Lm:Hid (Hk back s j=if back then nk-1-j else j):=aA (by unfold Hk;rw[Mb.out]);obtain⟨i,hi⟩:∃i,Hk back s j=i:=⟨_,rfl⟩;rw[hi]at wQ mT Lm;obtain⟨y,hy⟩:=XZ.out i mT;have HY:=aA hy;have Km:=HS.out wr S' σ' f' kd' m' nJ.out (by omega) i y mT hy;obtain⟨q1,hq1⟩:∃q1,jB procs n (execP procs n) back (s.drop i) σ' f'=q1:=⟨_,rfl⟩;rw[hq1]at Km;have HC:=aA Km;have X0:=aA hq1;have xG:i<nk:=by rw[Mb.out];exact mT
   obtain⟨g,o,rfl,cR,hcl⟩:=hy;have y0:=(nJ.out.base.cell (p:=⟨g,o+i*4,none⟩) cR).trans (hcl 0 _ rfl);have y1:=(nJ.out.base.cell (p:=⟨g,o+i*4+1,none⟩) cR).trans (hcl 1 _ rfl);have y2:=(nJ.out.base.cell (p:=⟨g,o+i*4+2,none⟩) cR).trans (hcl 2 _ rfl);have y3:=(nJ.out.base.cell (p:=⟨g,o+i*4+3,none⟩) cR).trans (hcl 3 _ rfl);have i0:(0:Int)<=(i:Int):=by omega
   have i1:(i:Int)<(nk:Int):=by omega
   clear hi hjs mT hq1 hcl Km;have eD:back=true->IntKind.i64.wrap ((nk:Int)-1-(j:Int))=(i:Int):=fun hb=>by
    have hI:=Lm.out;rw[hb,if_pos rfl]at hI;exact(wrap_small _ (by omega) (by omega)).trans (by omega)
   have yM:back=false->i=j:=fun hb=>by
    have hI:=Lm.out;rw[hb]at hI;exact hI
   have IN:Hid (∀S2,S'.Ext S2 wr->S.Ext S2 w1):=aA fun S2 h2=>zK.out.trans h2 lG.out.size
   have wW:Hid (∀w2,Fr (RO S' R r) wr w2->Fr (RO S R r) w1 w2):=aA fun w2 h2=>RO.fr zK.out lG.out h2
   cases q1 with
   |error e=>
    obtain rfl:q=.error e:=by rw[<-j6.out,wQ.out];unfold Mo.seq;rw[X0.out]
    unfold RunP bZ at HC;dsimp only at HC;clear HQ X0 j6 wQ Lm;cases back
    ·obtain rfl:=yM rfl
     clear eD yM;go_wp2_with fail;refine HC.out.mono ?_;rintro en w2 ⟨rfl,hb2⟩;have aP:=aA hb2;clear hb2;go_wp2_with fail;exact⟨rfl,rfl,aP.out⟩
    ·replace eD:=eD rfl
     clear yM;go_wp2_with fail;refine HC.out.mono ?_;rintro en w2 ⟨rfl,hb2⟩;have aP:=aA hb2;clear hb2;go_wp2_with fail;exact⟨rfl,rfl,aP.out⟩
   |ok p=>
    obtain⟨σ2,f2⟩:=p;have iN:Hid (oV procs n (execP procs n) back s (j+1) σ2 f2=q):=aA (by rw[<-j6.out,wQ.out];unfold Mo.seq;rw[X0.out]);have iJ:=NL (by omega) X0.out;unfold RunP at HC;dsimp only at HC;clear X0 j6 wQ Lm;cases back
    ·obtain rfl:=yM rfl
     clear eD yM;go_wp2_with fail;refine HC.out.mono ?_;rintro en w2 ⟨rfl,S2,kd2,m2,kF,RC,NM⟩;have wY:=aA kF;have F6:=aA RC;have jK:=aA NM;clear kF RC NM aJ aL aK y0 y1 y2 y3;go_wp2_with fail;exact⟨⟨i+1,S2,σ2,f2,kd2,m2,by omega,by first|rfl|go_num,wY.out,by omega,IN.out _ F6.out,wW.out _ jK.out,iN.out⟩,(by simp[intOf];try omega)⟩
    ·replace eD:=eD rfl
     clear yM;go_wp2_with fail;refine HC.out.mono ?_;rintro en w2 ⟨rfl,S2,kd2,m2,kF,RC,NM⟩;have wY:=aA kF;have F6:=aA RC;have jK:=aA NM;clear kF RC NM aJ aL aK y0 y1 y2 y3;go_wp2_with fail;exact⟨⟨j+1,S2,σ2,f2,kd2,m2,by omega,by first|rfl|go_num,wY.out,by omega,IN.out _ F6.out,wW.out _ jK.out,iN.out⟩,(by simp[intOf];try omega)⟩
  ·obtain rfl:j=nk:=(by omega)
   obtain rfl:q=.ok (σ',f'):=by rw[<-j6.out,Mb.out,GW];rfl
   clear HS XZ Mb;go_wp2_with fail;refine bodyPost_end (results_none rfl _ _ _) rfl ?_;exact⟨rfl,S',kd',m',nJ.out,⟨zK.out.1,fun k hk=>zK.out.2 k (by omega)⟩,(Fr.of aO.out).trans lG.out⟩
end
theorem jW{P:Program}{fn:Func}{p u:Tmp}{ty:TypeId}(h:fn.results=#[.cell p ty,.cell u ty])(tmps:Array Value)(w:World)(g g2:Nat)(t t2:TypeId)(cs cs2:Array Value)(d:TypeDesc)
  (hp:tmps.getD p undef=.pointer (some ⟨g,0,none⟩)) (hq:tmps.getD u undef=.pointer (some ⟨g2,0,none⟩)) (hg:Blk w g t cs) (QW:Blk w g2 t2 cs2) (hu:P.underlying ty=some d) (hd:(match d with|.struct _|.array _ _=>true|_=>false)=true) (hi:(P.info? ty).map (·.size)=some cs.size) (hi2:(P.info? ty).map (·.size)=some cs2.size):
  (results fn tmps).run P w=.ok (.tuple #[.agg cs,.agg cs2]) w:=by
 simp only[results,h];simp only[Array.getD_eq_getD_getElem?]at hp hq;simp[Sem.run_bind,Result.andThen,hp,hq,asAddr,run_loadVar_row w g t ty cs (0,0) d hg hu hd hi,run_loadVar_row w g2 t2 ty cs2 (0,0) d QW hu hd hi2]
theorem eZ{K:Act->World->Prop}{Q:Exit->Act->World->Prop}{x:Exit}{a:Act}{w:World}(h:∀w',w'=w->Exit.then K Q x a w'):Exit.then K Q x a w:=h w rfl
theorem cK{P:Program}{md:Region.Mode}{ops:Array Oper}{Q:Exit->Act->World->Prop}{S:World->Prop}{fuel:Nat}{listed:Array Bool}{a:Act}{w:World}(h:∀w',w'=w->wpAnyH P md ops Q S fuel listed a w'):wpAnyH P md ops Q S fuel listed a w:=h w rfl
theorem lS:(Tryz.prog.info? 26).map (·.size)=some 4:=by kernel_rfl
section
variable{w0 w w':World}{B0 r fuel f m:Nat}{R:Rn}{S:Sv}{σ:PSt}{kd:Nat->Int}
theorem UK{x y z:Nd}(hy:Kid w0 B0 x 0 y)(hz:Kid w0 B0 x (x.n-1) z)(hn:0<x.n)(hn2:x.n<=8)(hb:Below B0 w0 w)(hB:B0<=w.heap.size):
  Calls Tryz.prog 125 #[.agg #[.int .u8 x.k,.int .i64 x.num,.string x.nm,.slice x.A x.n x.cap],.bool false] w fun e w'=>e=.returned (.tuple #[.agg #[.int .u8 y.k,.int .i64 y.num,.string y.nm,.slice y.A y.n y.cap],.agg #[.int .u8 z.k,.int .i64 z.num,.string z.nm,.slice z.A z.n z.cap]])∧Below w.heap.size w w':=by
 obtain⟨yk,ynum,ynm,yA,yn,yc⟩:=y;obtain⟨zk,znum,znm,zA,zn,zc⟩:=z;obtain⟨gk,ok,hA,hc⟩:=Kid.at2 (hy.upS hb hB);obtain⟨gk',ok',gF,yK⟩:=Kid.at2 (hz.upS hb hB);rw[hA]at gF;injection gF with gF;injection gF with e1 e2 _;subst e1;subst e2;obtain⟨y0,y1,y2,y3⟩:=hc w (aM _ _);obtain⟨z0,z1,z2,z3⟩:=yK w (aM _ _);obtain⟨gg,og,AE,cR,_⟩:=hy;rw[hA]at AE;injection AE with AE;injection AE with e1 e2 _;subst e1;subst e2;have gR:gk<w.heap.size:=by omega
 have aF:IntKind.i64.wrap ((x.n:Int)-1)=((x.n-1:Nat):Int):=(wrap_small _ (by omega) (by omega)).trans (by omega);obtain⟨l,hl⟩:∃l,x.n-1=l:=⟨_,rfl⟩;have GK:l<x.n:=by omega
 rw[hl]at z0 z1 z2 z3 aF;clear hz hc yK hl hb;obtain⟨k,num,nm,A,n,cap⟩:=x;dsimp only at *;subst hA;have l0:(0:Int)<=(l:Int):=by omega
 have l1:(l:Int)<(n:Int):=by omega
 have l2:(0:Int)<(n:Int):=by omega
 rw[Nat.zero_mul,Nat.add_zero]at y0 y1 y2 y3;have HY:Hid (∀W,Below w.heap.size w W->W.cell? ⟨gk,ok,none⟩=some (.int .u8 yk)∧W.cell? ⟨gk,ok+1,none⟩=some (.int .i64 ynum)∧W.cell? ⟨gk,ok+2,none⟩=some (.string ynm)∧W.cell? ⟨gk,ok+3,none⟩=some (.slice yA yn yc)):=aA fun W hW=>⟨(hW.cell (p:=⟨gk,ok,none⟩) gR).trans y0,(hW.cell (p:=⟨gk,ok+1,none⟩) gR).trans y1,(hW.cell (p:=⟨gk,ok+2,none⟩) gR).trans y2,(hW.cell (p:=⟨gk,ok+3,none⟩) gR).trans y3⟩
 have HZ:Hid (∀W,Below w.heap.size w W->W.cell? ⟨gk,ok+l*4,none⟩=some (.int .u8 zk)∧W.cell? ⟨gk,ok+l*4+1,none⟩=some (.int .i64 znum)∧W.cell? ⟨gk,ok+l*4+2,none⟩=some (.string znm)∧W.cell? ⟨gk,ok+l*4+3,none⟩=some (.slice zA zn zc)):=aA fun W hW=>⟨(hW.cell (p:=⟨gk,ok+l*4,none⟩) gR).trans z0,(hW.cell (p:=⟨gk,ok+l*4+1,none⟩) gR).trans z1,(hW.cell (p:=⟨gk,ok+l*4+2,none⟩) gR).trans z2,(hW.cell (p:=⟨gk,ok+l*4+3,none⟩) gR).trans z3⟩
 clear y0 y1 y2 y3 z0 z1 z2 z3;go_enter Tryz.func125,Tryz.ntmps125;go_upto_region 1 with fail;refine aB ?_;intro w1 pK;have aG:Below w.heap.size w w1:=(by rw[pK];go_grown);have K1:Blk w1 w.heap.size 26 #[.int .u8 k,.int .i64 num,.string nm,.slice (some ⟨gk,ok,none⟩) n cap]:=(by rw[pK];exact aQ);have K2:Blk w1 (w.heap.size+1) 26 #[.int .u8 0,.int .i64 0,.string ⟨#[]⟩,.slice none 0 0]:=(by rw[pK];exact(Blk.new' (by simp) _ _).alloc _);have K3:Blk w1 (w.heap.size+1+1) 26 #[.int .u8 0,.int .i64 0,.string ⟨#[]⟩,.slice none 0 0]:=(by rw[pK];exact Blk.new' (by simp) _ _);have aO:=aA aG;have bI:=aA K2;have dD:=aA K3;obtain⟨y0,y1,y2,y3⟩:=HY.out w1 aG;obtain⟨z0,z1,z2,z3⟩:=HZ.out w1 aG;have hs1:=aG.size;have Gm:gk<w1.heap.size:=dX gR hs1;clear pK aG K2 K3;obtain⟨aL,aJ,aK⟩:=K1.open_;clear K1
 go_cut [6,7] (fun v6 v7 wx=>∃b6 b7:Nat,v6=.pointer (some ⟨b6,0,none⟩)∧v7=.pointer (some ⟨b7,0,none⟩)∧Blk wx b6 26 #[.int .u8 yk,.int .i64 ynum,.string ynm,.slice yA yn yc]∧Blk wx b7 26 #[.int .u8 zk,.int .i64 znum,.string znm,.slice zA zn zc]∧w1.heap.size<=b6∧w1.heap.size<=b7∧Below w1.heap.size w1 wx)
 case first=>
  go_region
  focus
   go_wp2_with fail;go_meet;exact⟨w1.heap.size,w1.heap.size+1,rfl,rfl,((Blk.new _ _ _).alloc _).drew,(Blk.new' (by simp) _ _).drew,aH _,Nat.le_succ _,by go_grown⟩
  focus
   go_wp2_with fail;go_meet;exact⟨w1.heap.size+1,w1.heap.size,rfl,rfl,(Blk.new' (by simp) _ _).drew,((Blk.new _ _ _).alloc _).drew,Nat.le_succ _,aH _,by go_grown⟩
 case rest=>
  obtain⟨b6,b7,rfl,rfl,K6,K7,h6,h7,xB⟩:=hcut;have tZ:=aA xB;have h4:=dD.out.lt;have K4:=bI.out.next xB;have K5:=dD.out.next xB;have Mg:Hid (∀w',Fr (fun k=>k=w.heap.size+1∨k=w.heap.size+1+1) wc w'->Below w.heap.size w w'):=aA fun w' hf=>(aO.out.next xB).trans (hf.below (by have:=(aO.out.next xB).size;omega) fun k hk=>by omega)
  have Gc:¬(w.heap.size+1+1=w.heap.size+1):=by omega
  have Gb:¬(w.heap.size+1=w.heap.size+1+1):=by omega
  replace h6:¬(b6=w.heap.size+1∨b6=w.heap.size+1+1):=by omega
  replace h7:¬(b7=w.heap.size+1∨b7=w.heap.size+1+1):=by omega
  clear bI dD tZ xB aJ aL aK y0 y1 y2 y3 z0 z1 z2 z3 HY HZ Gm hs1 gR cR aO h4 aF GK l0 l1 l2 hn hn2 hB;generalize w.heap.size+1+1=b5 at *;generalize w.heap.size+1=b4 at *;have eG:=aA K4;have lX:=aA K5;obtain⟨tE,s9,s6⟩:=K4.open_;obtain⟨D9,zN,zF⟩:=K5.open_;replace K6:=aA K6;replace K7:=aA K7;clear K4 K5;go_wp2_with fail;refine wp_region_held_drew (S:=fun W=>Fr (fun k=>k=b4∨k=b5) wc W) (by kernel_rfl) ((Fr.refl _ _).drew) (fun hH=>?_);refine cH 0 (v:=?_) rfl ?hy hH ?_
  case hy=>(intro bW aN;have t:=(aN.blk K6.out h6).cell;clear aN;go_simp;try with_reducible rfl)
  (try simp only[PU,aD])
  refine cH 1 (v:=?_) rfl ?hy hH ?_
  case hy=>(intro bW aN;have t:=(aN.blk K7.out h7).cell;clear aN;go_simp;try with_reducible rfl)
  (try simp only[PU,aD])
  refine cE 2 (by kernel_rfl) rfl (fun K hK=>?_);go_simp;refine hK.out _ _ ?h1 (fun hH=>?_)
  case h1=>(repeat (first|exact Fr.refl _ _|apply Fr.drew|(refine Fr.set ?_ ?_ _;rotate_left;first|exact Or.inl rfl|exact Or.inr rfl)))
  clear hK;(try simp only[PU,aD])
  refine cK ?_;intro V hV;have S0:Fr (fun k=>k=b4∨k=b5) wc V:=(by rw[hV];exact hH);have B4:Blk V b4 26 #[.int .u8 yk,.int .i64 ynum,.string ynm,.slice yA yn yc]:=(by rw[hV];simpa using((((eG.out.set_ 0 _).set_ 1 _).set_ 2 _).set_ 3 _).drew);have F4:Fr (fun k=>k=b4) wc V:=(by rw[hV];repeat (first|exact Fr.refl _ _|apply Fr.drew|(refine Fr.set ?_ ?_ _;rotate_left;exact rfl)));have B5:=F4.blk lX.out Gc;have dQ:=aA B4;have gL:=aA B5;clear hV hH F4 s9 tE s6 zN D9 zF B4 eG lX;obtain⟨D9,zN,zF⟩:=B5.open_;clear B5;replace hH:=S0;clear S0;refine cE 3 (by kernel_rfl) rfl (fun K hK=>?_);go_simp;refine hK.out _ _ ?h1 (fun hH=>?_)
  case h1=>(repeat (first|exact hH|apply Fr.drew|(refine Fr.set ?_ ?_ _;rotate_left;exact Or.inr rfl)))
  clear hK;(try simp only[PU,aD])
  refine wpAnyH_done (by kernel_rfl) ?_ _;refine eZ ?_;intro V2 VO;have B5:Blk V2 b5 26 #[.int .u8 zk,.int .i64 znum,.string znm,.slice zA zn zc]:=(by rw[VO];simpa using(((gL.out.set_ 0 _).set_ 1 _).set_ 2 _).set_ 3 _);have F5:Fr (fun k=>k=b5) V V2:=(by rw[VO];repeat (first|exact Fr.refl _ _|(refine Fr.set ?_ ?_ _;rotate_left;exact rfl)));have B4:=F5.blk dQ.out Gb;have HF:=aA (Mg.out V2 (by rw[VO];exact hH));have H4:=aA B4;have H5:=aA B5;clear VO hH F5 B4 B5 dQ gL zN D9 zF Mg K6 K7;go_wp2_with fail;(try simp only[Exit.inBlock,Exit.then])
  refine bodyPost_ret_by (jW rfl _ _ b4 b5 _ _ _ _ _ rfl rfl H4.out H5.out Tryz.underlying26 rfl (by rw[lS];rfl) (by rw[lS];rfl)) rfl ?_;exact⟨rfl,HF.out⟩
theorem UL{x y z:Nd}(hy:Kid w0 B0 x 0 y)(hz:Kid w0 B0 x (x.n-1) z)(hn:0<x.n)(hn2:x.n<=8)(hb:Below B0 w0 w)(hB:B0<=w.heap.size):
  Calls Tryz.prog 125 #[.agg #[.int .u8 x.k,.int .i64 x.num,.string x.nm,.slice x.A x.n x.cap],.bool true] w fun e w'=>e=.returned (.tuple #[.agg #[.int .u8 z.k,.int .i64 z.num,.string z.nm,.slice z.A z.n z.cap],.agg #[.int .u8 y.k,.int .i64 y.num,.string y.nm,.slice y.A y.n y.cap]])∧Below w.heap.size w w':=by
 obtain⟨yk,ynum,ynm,yA,yn,yc⟩:=y;obtain⟨zk,znum,znm,zA,zn,zc⟩:=z;obtain⟨gk,ok,hA,hc⟩:=Kid.at2 (hy.upS hb hB);obtain⟨gk',ok',gF,yK⟩:=Kid.at2 (hz.upS hb hB);rw[hA]at gF;injection gF with gF;injection gF with e1 e2 _;subst e1;subst e2;obtain⟨y0,y1,y2,y3⟩:=hc w (aM _ _);obtain⟨z0,z1,z2,z3⟩:=yK w (aM _ _);obtain⟨gg,og,AE,cR,_⟩:=hy;rw[hA]at AE;injection AE with AE;injection AE with e1 e2 _;subst e1;subst e2;have gR:gk<w.heap.size:=by omega
 have aF:IntKind.i64.wrap ((x.n:Int)-1)=((x.n-1:Nat):Int):=(wrap_small _ (by omega) (by omega)).trans (by omega);obtain⟨l,hl⟩:∃l,x.n-1=l:=⟨_,rfl⟩;have GK:l<x.n:=by omega
 rw[hl]at z0 z1 z2 z3 aF;clear hz hc yK hl hb;obtain⟨k,num,nm,A,n,cap⟩:=x;dsimp only at *;subst hA;have l0:(0:Int)<=(l:Int):=by omega
 have l1:(l:Int)<(n:Int):=by omega
 have l2:(0:Int)<(n:Int):=by omega
 rw[Nat.zero_mul,Nat.add_zero]at y0 y1 y2 y3;have HY:Hid (∀W,Below w.heap.size w W->W.cell? ⟨gk,ok,none⟩=some (.int .u8 yk)∧W.cell? ⟨gk,ok+1,none⟩=some (.int .i64 ynum)∧W.cell? ⟨gk,ok+2,none⟩=some (.string ynm)∧W.cell? ⟨gk,ok+3,none⟩=some (.slice yA yn yc)):=aA fun W hW=>⟨(hW.cell (p:=⟨gk,ok,none⟩) gR).trans y0,(hW.cell (p:=⟨gk,ok+1,none⟩) gR).trans y1,(hW.cell (p:=⟨gk,ok+2,none⟩) gR).trans y2,(hW.cell (p:=⟨gk,ok+3,none⟩) gR).trans y3⟩
 have HZ:Hid (∀W,Below w.heap.size w W->W.cell? ⟨gk,ok+l*4,none⟩=some (.int .u8 zk)∧W.cell? ⟨gk,ok+l*4+1,none⟩=some (.int .i64 znum)∧W.cell? ⟨gk,ok+l*4+2,none⟩=some (.string znm)∧W.cell? ⟨gk,ok+l*4+3,none⟩=some (.slice zA zn zc)):=aA fun W hW=>⟨(hW.cell (p:=⟨gk,ok+l*4,none⟩) gR).trans z0,(hW.cell (p:=⟨gk,ok+l*4+1,none⟩) gR).trans z1,(hW.cell (p:=⟨gk,ok+l*4+2,none⟩) gR).trans z2,(hW.cell (p:=⟨gk,ok+l*4+3,none⟩) gR).trans z3⟩
 clear y0 y1 y2 y3 z0 z1 z2 z3;go_enter Tryz.func125,Tryz.ntmps125;go_upto_region 1 with fail;refine aB ?_;intro w1 pK;have aG:Below w.heap.size w w1:=(by rw[pK];go_grown);have K1:Blk w1 w.heap.size 26 #[.int .u8 k,.int .i64 num,.string nm,.slice (some ⟨gk,ok,none⟩) n cap]:=(by rw[pK];exact aQ);have K2:Blk w1 (w.heap.size+1) 26 #[.int .u8 0,.int .i64 0,.string ⟨#[]⟩,.slice none 0 0]:=(by rw[pK];exact(Blk.new' (by simp) _ _).alloc _);have K3:Blk w1 (w.heap.size+1+1) 26 #[.int .u8 0,.int .i64 0,.string ⟨#[]⟩,.slice none 0 0]:=(by rw[pK];exact Blk.new' (by simp) _ _);have aO:=aA aG;have bI:=aA K2;have dD:=aA K3;obtain⟨y0,y1,y2,y3⟩:=HY.out w1 aG;obtain⟨z0,z1,z2,z3⟩:=HZ.out w1 aG;have hs1:=aG.size;have Gm:gk<w1.heap.size:=dX gR hs1;clear pK aG K2 K3;obtain⟨aL,aJ,aK⟩:=K1.open_;clear K1
 go_cut [6,7] (fun v6 v7 wx=>∃b6 b7:Nat,v6=.pointer (some ⟨b6,0,none⟩)∧v7=.pointer (some ⟨b7,0,none⟩)∧Blk wx b6 26 #[.int .u8 yk,.int .i64 ynum,.string ynm,.slice yA yn yc]∧Blk wx b7 26 #[.int .u8 zk,.int .i64 znum,.string znm,.slice zA zn zc]∧w1.heap.size<=b6∧w1.heap.size<=b7∧Below w1.heap.size w1 wx)
 case first=>
  go_region
  focus
   go_wp2_with fail;go_meet;exact⟨w1.heap.size,w1.heap.size+1,rfl,rfl,((Blk.new _ _ _).alloc _).drew,(Blk.new' (by simp) _ _).drew,aH _,Nat.le_succ _,by go_grown⟩
  focus
   go_wp2_with fail;go_meet;exact⟨w1.heap.size+1,w1.heap.size,rfl,rfl,(Blk.new' (by simp) _ _).drew,((Blk.new _ _ _).alloc _).drew,Nat.le_succ _,aH _,by go_grown⟩
 case rest=>
  obtain⟨b6,b7,rfl,rfl,K6,K7,h6,h7,xB⟩:=hcut;have tZ:=aA xB;have h4:=dD.out.lt;have K4:=bI.out.next xB;have K5:=dD.out.next xB;have Mg:Hid (∀w',Fr (fun k=>k=w.heap.size+1∨k=w.heap.size+1+1) wc w'->Below w.heap.size w w'):=aA fun w' hf=>(aO.out.next xB).trans (hf.below (by have:=(aO.out.next xB).size;omega) fun k hk=>by omega)
  have Gc:¬(w.heap.size+1+1=w.heap.size+1):=by omega
  have Gb:¬(w.heap.size+1=w.heap.size+1+1):=by omega
  replace h6:¬(b6=w.heap.size+1∨b6=w.heap.size+1+1):=by omega
  replace h7:¬(b7=w.heap.size+1∨b7=w.heap.size+1+1):=by omega
  clear bI dD tZ xB aJ aL aK y0 y1 y2 y3 z0 z1 z2 z3 HY HZ Gm hs1 gR cR aO h4 aF GK l0 l1 l2 hn hn2 hB;generalize w.heap.size+1+1=b5 at *;generalize w.heap.size+1=b4 at *;have eG:=aA K4;have lX:=aA K5;obtain⟨tE,s9,s6⟩:=K4.open_;obtain⟨D9,zN,zF⟩:=K5.open_;replace K6:=aA K6;replace K7:=aA K7;clear K4 K5;go_wp2_with fail;refine wp_region_held_drew (S:=fun W=>Fr (fun k=>k=b4∨k=b5) wc W) (by kernel_rfl) ((Fr.refl _ _).drew) (fun hH=>?_);refine cH 0 (v:=?_) rfl ?hy hH ?_
  case hy=>(intro bW aN;have t:=(aN.blk K7.out h7).cell;clear aN;go_simp;try with_reducible rfl)
  (try simp only[PU,aD])
  refine cH 1 (v:=?_) rfl ?hy hH ?_
  case hy=>(intro bW aN;have t:=(aN.blk K6.out h6).cell;clear aN;go_simp;try with_reducible rfl)
  (try simp only[PU,aD])
  refine cE 2 (by kernel_rfl) rfl (fun K hK=>?_);go_simp;refine hK.out _ _ ?h1 (fun hH=>?_)
  case h1=>(repeat (first|exact Fr.refl _ _|apply Fr.drew|(refine Fr.set ?_ ?_ _;rotate_left;first|exact Or.inl rfl|exact Or.inr rfl)))
  clear hK;(try simp only[PU,aD])
  refine cK ?_;intro V hV;have S0:Fr (fun k=>k=b4∨k=b5) wc V:=(by rw[hV];exact hH);have B4:Blk V b4 26 #[.int .u8 zk,.int .i64 znum,.string znm,.slice zA zn zc]:=(by rw[hV];simpa using((((eG.out.set_ 0 _).set_ 1 _).set_ 2 _).set_ 3 _).drew);have F4:Fr (fun k=>k=b4) wc V:=(by rw[hV];repeat (first|exact Fr.refl _ _|apply Fr.drew|(refine Fr.set ?_ ?_ _;rotate_left;exact rfl)));have B5:=F4.blk lX.out Gc;have dQ:=aA B4;have gL:=aA B5;clear hV hH F4 s9 tE s6 zN D9 zF B4 eG lX;obtain⟨D9,zN,zF⟩:=B5.open_;clear B5;replace hH:=S0;clear S0;refine cE 3 (by kernel_rfl) rfl (fun K hK=>?_);go_simp;refine hK.out _ _ ?h1 (fun hH=>?_)
  case h1=>(repeat (first|exact hH|apply Fr.drew|(refine Fr.set ?_ ?_ _;rotate_left;exact Or.inr rfl)))
  clear hK;(try simp only[PU,aD])
  refine wpAnyH_done (by kernel_rfl) ?_ _;refine eZ ?_;intro V2 VO;have B5:Blk V2 b5 26 #[.int .u8 yk,.int .i64 ynum,.string ynm,.slice yA yn yc]:=(by rw[VO];simpa using(((gL.out.set_ 0 _).set_ 1 _).set_ 2 _).set_ 3 _);have F5:Fr (fun k=>k=b5) V V2:=(by rw[VO];repeat (first|exact Fr.refl _ _|(refine Fr.set ?_ ?_ _;rotate_left;exact rfl)));have B4:=F5.blk dQ.out Gb;have HF:=aA (Mg.out V2 (by rw[VO];exact hH));have H4:=aA B4;have H5:=aA B5;clear VO hH F5 B4 B5 dQ gL zN D9 zF Mg K6 K7;go_wp2_with fail;(try simp only[Exit.inBlock,Exit.then])
  refine bodyPost_ret_by (jW rfl _ _ b4 b5 _ _ _ _ _ rfl rfl H4.out H5.out Tryz.underlying26 rfl (by rw[lS];rfl) (by rw[lS];rfl)) rfl ?_;exact⟨rfl,HF.out⟩
theorem Ep{x y z:Nd}(hy:Kid w0 B0 x 0 y)(hz:Kid w0 B0 x (x.n-1) z)(hn:0<x.n)(hn2:x.n<=8)(back:Bool)(hb:Below B0 w0 w)(hB:B0<=w.heap.size):
  Calls Tryz.prog 125 #[.agg #[.int .u8 x.k,.int .i64 x.num,.string x.nm,.slice x.A x.n x.cap],.bool back] w fun e w'=>e=.returned (.tuple #[if back then .agg #[.int .u8 z.k,.int .i64 z.num,.string z.nm,.slice z.A z.n z.cap]else .agg #[.int .u8 y.k,.int .i64 y.num,.string y.nm,.slice y.A y.n y.cap],if back then .agg #[.int .u8 y.k,.int .i64 y.num,.string y.nm,.slice y.A y.n y.cap]else .agg #[.int .u8 z.k,.int .i64 z.num,.string z.nm,.slice z.A z.n z.cap]])∧Below w.heap.size w w':=by
 cases back
 ·exact UK hy hz hn hn2 hb hB
 ·exact UL hy hz hn hn2 hb hB
end
end Go.Proofs.YtakfdnnlhjhcfaaGreatDoor
