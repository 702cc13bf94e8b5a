/- Part of the proof. -/
import Derived.Test.YtakfdnnlhjhcfaaGreatDoorA40
set_option linter.unusedVariables false
set_option linter.unusedSimpArgs false
set_option maxRecDepth 100000
set_option maxHeartbeats 4000000
namespace Go.Proofs.YtakfdnnlhjhcfaaGreatDoor
open Go.RowKit Bk
theorem Z3{w:World}{b g c r i:Nat}(h:PT w b g c r i)(t:Int×ByteArray×Int)(ht:BV[i]?=some t):
  Calls Tryz.prog 80 #[.pointer (some ⟨b,0,none⟩),.string t.2.1] w fun e w'=>e=.returned (.tuple #[])∧PT w' b g c r (i+1)∧Fr (· =b) w w':=
 (Oc h.pa t ht).mono fun e w'⟨h1,h2,h3⟩=>⟨h1,h.fr h3 h2,h3⟩
theorem DA{w:World}{b g c r i:Nat}(h:PT w b g c r i)(t:Int×ByteArray×Int)(ht:BV[i]?=some t):
  Calls Tryz.prog 112 #[.pointer (some ⟨b,0,none⟩),.string t.2.1] w fun e w'=>e=.returned (.bool true)∧PT w' b g c r (i+1)∧Fr (· =b) w w':=
 (LX h.pa t ht).mono fun e w'⟨h1,h2,h3⟩=>⟨h1,h.fr h3 h2,h3⟩
theorem BD:(Tryz.prog.info? 26).map (fun i=>(i.zero,i.size,i.bytes))=some (some (.agg #[.int .u8 0,.int .i64 0,.string ⟨#[]⟩,.slice none 0 0]),4,56):=by kernel_rfl
def K1At(w:World)(lo g2:Nat)(v:Value):Prop:=w.ownsRow lo 26 4 v 1 [.int .u8 40,.int .i64 0,.string ⟨#[]⟩,.slice (some ⟨g2,0,none⟩) 2 2]∧K2At w lo g2
theorem K2At.keep{w w':World}{lo g2:Nat}(h:K2At w lo g2)(e:w'.heap[g2]?=w.heap[g2]?):K2At w' lo g2:=⟨e.trans h.1,h.2⟩
theorem K1At.fr{w w':World}{lo g2:Nat}{v:Value}{O:Nat->Prop}(h:K1At w lo g2 v)(hf:Fr O w w')(hO:∀k,lo<=k->k<w.heap.size->¬O k):K1At w' lo g2 v:=
 ⟨bL h.1 hf (fun k hk=>hO k (bH h.1 hk).1 (bH h.1 hk).2),h.2.keep (hf.block g2 h.2.1.lt (hO g2 h.2.2 h.2.1.lt))⟩
theorem UF{w:World}{b g c r:Nat}(h:PT w b g c r 3):Calls Tryz.prog 116 #[.pointer (some ⟨b,0,none⟩)] w fun e w'=>(∃g2 v,e=.returned (.agg #[.int .u8 57,.int .i64 0,.string ⟨#[]⟩,v])∧K1At w' w.heap.size g2 v)∧PT w' b g c r 9∧Fr (· =b) w w':=by
 have H:=aA h;have IY:=h.pa.blk.lt;have hnb:w.heap.size+1≠b:=by omega
 obtain⟨i4,li,lz,ls,lb⟩:=info_parts BD;have HI:=aA li;have HZ:=aA lz;have lI:=aA ls;have jY:=aA lb;clear h li lz ls lb;go_enter Tryz.func116,Tryz.ntmps116;go_upto_region 2 with fail;refine aB ?_;intro w1 aF;have aG:Below w.heap.size w w1:=by rw[aF];go_grown
 have K1:Blk w1 w.heap.size 26 #[.int .u8 0,.int .i64 0,.string ⟨#[]⟩,.slice none 0 0]:=by rw[aF];exact aQ
 have KX:Blk w1 (w.heap.size+1) 26 #[.int .u8 57,.int .i64 0,.string ⟨#[]⟩,.slice none 0 0]:=by rw[aF];exact Blk.new' (by simp) _ _
 have a9:=aA K1;have Nl:=aA KX;have iL:=aA (Fr.of (O:=(· =b)) aG);have H1:=aA (H.out.next aG);clear aF aG K1 KX;go_wp2_with fail;refine(Z3 H1.out (3,⟨#[123]⟩,11) rfl).mono ?_;rintro en w2 ⟨rfl,h2,iJ⟩;have H2:=aA h2;have lG:=aA (iL.out.trans iJ);have bI:=aA (iJ.blk a9.out (by omega));have zK:=aA (iJ.blk Nl.out (by omega));clear h2 iJ;go_upto_region 3 with fail
 go_loopw [] (fun wr=>((PT wr b g c r 4∧Blk wr (w.heap.size+1) 26 #[.int .u8 57,.int .i64 0,.string ⟨#[]⟩,.slice none 0 0])∨∃g2 v,PT wr b g c r 8∧Blk wr (w.heap.size+1) 26 #[.int .u8 57,.int .i64 0,.string ⟨#[]⟩,v]∧K1At wr (w.heap.size+2) g2 v)∧Blk wr w.heap.size 26 #[.int .u8 0,.int .i64 0,.string ⟨#[]⟩,.slice none 0 0]∧Fr (· =b) w wr) (fun wr=>(9-intOf ((wr.cell? ⟨b,1,none⟩).getD undef)).toNat)
 case atStart=>exact⟨.inl ⟨H2.out,zK.out⟩,bI.out,lG.out⟩
 case round=>
  obtain⟨hst,hk,hf⟩:=hrel;have QM:=aA hk;have Li:=aA hf;clear hk hf;rcases hst with⟨hp,hx⟩|⟨g2,v,hp,hx,rH⟩
  ·have Hr:=aA hp;have Dj:=aA hx
   have nS:wr.cell? ⟨b,1,none⟩=some (.int .i64 4):=hp.pa.blk.cell 1;obtain⟨T7,I0,G5⟩:=hp.pa.blk.open_;clear hp hx;go_wp2_with fail;refine(tM Hr.out (1,⟨#[120]⟩,13) rfl ⟨#[125]⟩ (by decide+kernel)).mono ?_;rintro en w4 ⟨rfl,bV⟩;have H4:=aA (Hr.out.next bV);have l9:=aA (Li.out.next bV);have eG:=aA (QM.out.next bV);have lZ:=aA (Dj.out.next bV);clear bV T7 I0 G5;go_upto_region 4 with fail;refine dN (S:=fun W=>Fr (· =b) w4 W) 7 (by kernel_rfl) ((Fr.refl _ _).drew) (fun hH=>?_);refine dK ?_;intro wa bP;have hX:Below w4.heap.size w4 wa:=by rw[bP];exact(aM _ _).drew
   replace hH:Fr (· =b) w4 wa:=Fr.of hX;clear bP;refine aV (i:=0) (v:=?_) rfl (by kernel_rfl) (by kernel_rfl) (by kernel_rfl) (by kernel_rfl) (fun _ _ _ h=>h) (Or.inl ⟨by rfl,?hy⟩) hH ?_
   case hy=>(intro bW aN;clear aN;go_simp;try with_reducible rfl)
   (try simp only[PU,aD])
   refine aV (i:=1) (v:=?_) rfl (by kernel_rfl) (by kernel_rfl) (by kernel_rfl) (by kernel_rfl) (fun _ _ _ h=>h) (Or.inl ⟨by rfl,?hy⟩) hH ?_
   case hy=>(intro bW aN;have t:=(aN.blk lZ.out hnb).cell;clear aN;go_simp;try with_reducible rfl)
   (try simp only[PU,aD])
   refine aV (i:=2) (v:=?_) rfl (by kernel_rfl) (by kernel_rfl) (by kernel_rfl) (by kernel_rfl) (fun _ _ _ h=>h) (Or.inl ⟨by rfl,?hy⟩) hH ?_
   case hy=>(intro bW aN;clear aN;go_simp;try with_reducible rfl)
   (try simp only[PU,aD])
   refine bQ (i:=3) rfl (by kernel_rfl) (fun K hK=>?_);go_simp;refine(Fk (H4.out.next hX)).mono ?_;rintro en wb ⟨⟨g2,rfl,yN⟩,hp,yL⟩;replace hH:Fr (· =b) w4 wb:=(Fr.of hX).trans yL;have IR:=aA hp;have bI:=aA yN;have F7:=aA hX.size;have Hh:=yL.size;clear hX hp yL yN;refine hK.out _ _ hH (fun _=>?_);clear hK;(try simp only[PU,aD])
   refine bQ (i:=4) rfl (by kernel_rfl) (fun K hK=>?_);go_simp;replace hH:=hH.next ((aM _ _).alloc (aH _) (.cells #[.int .u8 40,.int .i64 0,.string ⟨#[]⟩,.slice (some ⟨g2,0,none⟩) 2 2] 26));refine hK.out _ _ hH (fun _=>?_);clear hK;(try simp only[PU,aD])
   refine dK ?_;intro wc bS;have aR:Below wb.heap.size wb wc:=by rw[bS];exact(aM _ _).alloc (aH _) _
   have pX:Blk wc wb.heap.size 26 #[.int .u8 40,.int .i64 0,.string ⟨#[]⟩,.slice (some ⟨g2,0,none⟩) 2 2]:=by rw[bS];exact Blk.new _ _ _
   have W6:=aA pX;replace IR:=aA (IR.out.next aR);replace bI:=aA (bI.out.keep (aR.block _ bI.out.1.lt));have jL:=aR.size;rw[<-bS]at hH;clear bS aR pX;refine bQ (i:=5) rfl (by kernel_rfl) (fun K hK=>?_);rw[if_pos (by rfl)];refine e8 (.tmp 18) (.tmp 21) 24 rfl 26 i4 _ 4 56 Tryz.underlying24 HI.out HZ.out lI.out jY.out rfl (by decide) (D:=fun _=>True) (A:=none) (n:=0) (xs:= []) (by simp[Act.eval]) Sl.nil ⟨wb.heap.size,0,none⟩ 1 1 [.int .u8 40,.int .i64 0,.string ⟨#[]⟩,.slice (some ⟨g2,0,none⟩) 2 2] (by simp[Act.eval]) (by decide) rfl (by intro j u hu;rw[Addr.add_lit,Nat.zero_add];exact(W6.out.cell j).trans (by rw[List.getElem?_toArray];exact hu)) (by unfold maxLen;omega) (by omega) ?_;intro v_2 wd O4 aR;have bB:wd.ownsRow wc.heap.size 26 4 v_2 1 [.int .u8 40,.int .i64 0,.string ⟨#[]⟩,.slice (some ⟨g2,0,none⟩) 2 2]:=O4;clear O4;obtain⟨iS,iT,rfl⟩:=aI bB;replace hH:=hH.next aR;replace IR:=aA (IR.out.next aR);replace bI:=aA (bI.out.keep (aR.block _ bI.out.1.lt));have lY:=aA bB;have hz_:=aR.size;clear bB aR;refine hK.out _ _ hH (fun _=>?_);clear hK;(try simp only[PU,aD])
   refine aV (i:=6) (v:=?_) rfl (by kernel_rfl) (by kernel_rfl) (by kernel_rfl) (by kernel_rfl) (fun _ _ _ h=>h) (Or.inl ⟨by rfl,?hy⟩) hH ?_
   case hy=>(intro bW aN;clear aN;go_simp;try with_reducible rfl)
   (try simp only[PU,aD])
   refine fK (l:=7) rfl (by kernel_rfl) (by kernel_rfl) (fun K hK=>?_);have IG:wd.frozen? ⟨w.heap.size+1,3,none⟩=false:=(hH.blk lZ.out hnb).frozen 3;have C_f:wd.cell? ⟨w.heap.size+1,3,none⟩=some (.slice none 0 0):=(hH.blk lZ.out hnb).cell 3;go_simp;refine hK.out _ _ ?_;clear hK;(try simp only[PU,aD])
   have HH:=aA hH;have Zq:=aA (hH.blk lZ.out hnb);have hzh:=hH.size;clear hH;go_upto_region 5 with fail;refine aB ?_;intro w5 jS;have r9:Fr (· =w.heap.size+1) wd w5:=by rw[jS];exact Fr.set (Fr.refl (· =w.heap.size+1) _) rfl _
   have gP:Hid (Blk w5 (w.heap.size+1) 26 #[.int .u8 57,.int .i64 0,.string ⟨#[]⟩,.slice iS 1 iT]):=aA (by rw[jS];simpa using Zq.out.set_ 3 (.slice iS 1 iT));have s7:Hid (Fr (· =b) w w5):=aA (by rw[jS];exact eW (l9.out.trans HH.out) (Nat.le_succ _) _);have gR:=H.out.pa.ne.2.1;have Ro:=H.out.ne.2;have xK:w.heap.size+1<w4.heap.size:=lZ.out.lt;have hxz:=F7.out;have H5:=aA (IR.out.other r9 hnb.symm (by omega) (by omega));have lX:=aA (r9.blk (HH.out.blk eG.out (by omega)) (by omega));have Tp:Hid (K1At w5 (w.heap.size+2) g2 (.slice iS 1 iT)):=aA (K1At.fr (w:=wd) ⟨dZ lY.out (by omega),bI.out.1,by have:=bI.out.2;omega⟩ r9 (fun k h1 _ h2=>by omega));clear jS r9;go_wp2_with fail;refine(Z3 H5.out (3,⟨#[59]⟩,19) rfl).mono ?_;rintro en w6 ⟨rfl,h6,wS⟩;have H6:=aA h6;have kD:=aA (wS.blk gP.out hnb);have oF:=aA (wS.blk lX.out (by omega));have pQ:=aA (s7.out.trans wS);have Xk:=aA (Tp.out.fr wS (fun k h1 _ h2=>by omega));have Ga:w6.cell? ⟨b,1,none⟩=some (.int .i64 8):=h6.pa.blk.cell 1;clear h6 wS;go_wp2_with fail;exact⟨⟨.inr ⟨g2,.slice iS 1 iT,H6.out,kD.out,Xk.out⟩,oF.out,pQ.out⟩,by rw[nS,Ga];decide⟩
  ·have Hr:=aA hp;have Dj:=aA hx;have Tp:=aA rH
   obtain⟨T7,I0,G5⟩:=hp.pa.blk.open_;clear hp hx rH;go_wp2_with fail;refine(DA Hr.out (3,⟨#[125]⟩,21) rfl).mono ?_;rintro en w4 ⟨rfl,h4,pI⟩;have H4:=aA h4;have l9:=aA (Li.out.trans pI);have eG:=aA (pI.blk QM.out (by omega));have lZ:=aA (pI.blk Dj.out hnb);have SA:=aA (Tp.out.fr pI (fun k h1 _ h2=>by omega));obtain⟨zE,zV,rfl⟩:=aI Tp.out.1;clear h4 pI T7 I0 G5;obtain⟨Tf,Nr,Jz⟩:=eG.out.open_;obtain⟨Tg,Ns,Ka⟩:=lZ.out.open_;go_wp2_with fail;have K9:=(((eG.out.set_ 0 (.int .u8 57)).set_ 1 (.int .i64 0)).set_ 2 (.string ⟨#[]⟩)).set_ 3 (.slice zE 1 zV);refine bodyPost_ret_by (results_cell_row rfl _ _ w.heap.size 26 #[.int .u8 57,.int .i64 0,.string ⟨#[]⟩,.slice zE 1 zV] _ _ rfl (show Blk _ w.heap.size 26 #[.int .u8 57,.int .i64 0,.string ⟨#[]⟩,.slice zE 1 zV] by simpa using K9) Tryz.underlying26 rfl (by rw[fH];rfl)) rfl ?_;have xE:=Fr.set (Fr.set (Fr.set (Fr.set (Fr.refl (· =w.heap.size) w4) (p:=⟨w.heap.size,0,none⟩) rfl (.int .u8 57)) (p:=⟨w.heap.size,1,none⟩) rfl (.int .i64 0)) (p:=⟨w.heap.size,2,none⟩) rfl (.string ⟨#[]⟩)) (p:=⟨w.heap.size,3,none⟩) rfl (.slice zE 1 zV);have hk:=SA.out.fr xE (fun k h1 _ h2=>by omega);exact⟨⟨g2,.slice zE 1 zV,rfl,dZ hk.1 (by omega),hk.2.1,by have:=hk.2.2;omega⟩,H.out.fin H4.out l9.out (aH _) _ _ _ _⟩
end Go.Proofs.YtakfdnnlhjhcfaaGreatDoor
namespace Bk
open Go Go.RowKit Go.Proofs.YtakfdnnlhjhcfaaGreatDoor
def nX:Nd:=⟨2,0,⟨#[120]⟩,none,0,0⟩
def n3:Nd:=⟨1,3,⟨#[]⟩,none,0,0⟩
def nP(g2:Nat):Nd:=⟨40,0,⟨#[]⟩,some ⟨g2,0,none⟩,2,2⟩
def nM(g3 cap:Nat):Nd:=⟨57,0,⟨#[]⟩,some ⟨g3,0,none⟩,1,cap⟩
structure TrAt(w:World)(B g2 g3 cap:Nat):Prop where
 k0:Kid w B (nM g3 cap) 0 (nP g2)
 kx:Kid w B (nP g2) 0 nX
 k3:Kid w B (nP g2) 1 n3
 cap:1<=cap∧cap<=maxLen
theorem TrAt.next{w w':World}{B g2 g3 cap:Nat}(h:TrAt w B g2 g3 cap)(hb:Below B w w'):TrAt w' B g2 g3 cap:=⟨h.k0.next hb,h.kx.next hb,h.k3.next hb,h.cap⟩
theorem K1At.tree{w:World}{lo g2:Nat}{v:Value}(h:K1At w lo g2 v):∃g3 cap,v=.slice (some ⟨g3,0,none⟩) 1 cap∧TrAt w w.heap.size g2 g3 cap:=by
 obtain⟨⟨hl,hr⟩,hk,Qt⟩:=h;rcases hr with⟨_,h0⟩|⟨g,cap,cur,rfl,hg,hh,h1,h2,h3,h4⟩
 ·cases h0
 ·have hc:∀j u,[.int .u8 40,.int .i64 0,.string ⟨#[]⟩,.slice (some ⟨g2,0,none⟩) 2 2][j]?=some u->w.cell? ⟨g,j,none⟩=some u:=fun j u hu=>by
   have hb:Blk w g 26 cur:=hh;rw[hb.cell];have hj:j<4:=(lgS.1 hu).1;rw[<-h4,List.getElem?_take,if_pos (by simpa using hj)]at hu;simpa using hu
  have kid:∀(i:Nat)(y:Nd),(∀j u,y.cells[j]?=some u->(#[.int .u8 2,.int .i64 0,.string ⟨#[120]⟩,.slice none 0 0,.int .u8 1,.int .i64 3,.string ⟨#[]⟩,.slice none 0 0]:Array Value)[i*4+j]?=some u)->Kid w w.heap.size (nP g2) i y:=fun i y hy=>⟨g2,0,rfl,hk.lt,fun j u hu=>by rw[Nat.zero_add,hk.cell];exact hy j u hu⟩
  refine⟨g,cap,rfl,⟨⟨g,0,rfl,Blk.lt (cs:=cur) hh,fun j u hu=>?_⟩,kid 0 _ ?_,kid 1 _ ?_,h1,h2⟩⟩
  ·rw[show 0+0*4+j=j by omega];exact hc j u hu
  all_goals
   intro j u hu
   match j,hu with
   |0,hu=>exact hu
   |1,hu=>exact hu
   |2,hu=>exact hu
   |3,hu=>exact hu
end Bk
namespace Go.Proofs.YtakfdnnlhjhcfaaGreatDoor
open Go.RowKit Bk
theorem VE{w:World}{B g2 g3 cap:Nat}(bG:B<=w.heap.size)(h:TrAt w B g2 g3 cap)(w':World)(hb:Below B w w'):Calls Tryz.prog 150 #[.agg #[.int .u8 57,.int .i64 0,.string ⟨#[]⟩,.slice (some ⟨g3,0,none⟩) 1 cap]] w' fun en w''=>en=.returned (.int .i64 4)∧Below w'.heap.size w' w'':=by
 have leaf:∀x:Nd,x.n=0->∀W,Below B w W->Calls Tryz.prog 150 #[.agg #[.int .u8 x.k,.int .i64 x.num,.string x.nm,.slice x.A x.n x.cap]] W fun en w''=>en=.returned (.int .i64 1)∧Below W.heap.size W w'':=fun x hx W hW=>by
  have:=A9 bG x (fun _=>0) (fun i hi=>absurd hi (by omega)) (by rw[hx];decide) (by omega) W hW;rw[hx]at this;rw[hx];exact this
 have hP:∀W,Below B w W->Calls Tryz.prog 150 #[.agg #[.int .u8 (nP g2).k,.int .i64 (nP g2).num,.string (nP g2).nm,.slice (nP g2).A (nP g2).n (nP g2).cap]] W fun en w''=>en=.returned (.int .i64 3)∧Below W.heap.size W w'':=fun W hW=>
  A9 bG (nP g2) (fun _=>1) (fun i hi=>by
   match i,hi with
   |0,_=>exact⟨nX,h.kx,leaf nX rfl⟩
   |1,_=>exact⟨n3,h.k3,leaf n3 rfl⟩) (by show 2<=17592186043904;omega) (by show 2<=17592186043904;omega) W hW
 exact A9 bG (nM g3 cap) (fun _=>3) (fun i hi=>by
  have hi:i<1:=hi;obtain rfl:i=0:=by omega
  exact⟨nP g2,h.k0,hP⟩) (by show 3<=17592186043904;omega) (by show 1<=17592186043904;omega) w' hb
theorem LY{w:World}{B g2 g3 cap:Nat}(bG:B<=w.heap.size)(h:TrAt w B g2 g3 cap)(w':World)(hb:Below B w w'):Calls Tryz.prog 149 #[.agg #[.int .u8 57,.int .i64 0,.string ⟨#[]⟩,.slice (some ⟨g3,0,none⟩) 1 cap]] w' fun en w''=>en=.returned (.int .i64 3)∧Below w'.heap.size w' w'':=by
 have leaf:∀x:Nd,x.n=0->∀W,Below B w W->Calls Tryz.prog 149 #[.agg #[.int .u8 x.k,.int .i64 x.num,.string x.nm,.slice x.A x.n x.cap]] W fun en w''=>en=.returned (.int .i64 1)∧Below W.heap.size W w'':=fun x hx W hW=>by
  have:=u7 bG x (fun _=>0) (fun i hi=>absurd hi (by omega)) (by rw[hx];decide) (by omega) W hW;rw[hx]at this;rw[hx];exact this
 have hP:∀W,Below B w W->Calls Tryz.prog 149 #[.agg #[.int .u8 (nP g2).k,.int .i64 (nP g2).num,.string (nP g2).nm,.slice (nP g2).A (nP g2).n (nP g2).cap]] W fun en w''=>en=.returned (.int .i64 2)∧Below W.heap.size W w'':=fun W hW=>
  u7 bG (nP g2) (fun _=>1) (fun i hi=>by
   match i,hi with
   |0,_=>exact⟨nX,h.kx,leaf nX rfl⟩
   |1,_=>exact⟨n3,h.k3,leaf n3 rfl⟩) (by show 1<=17592186043904;omega) (by show 2<=17592186043904;omega) W hW
 exact u7 bG (nM g3 cap) (fun _=>2) (fun i hi=>by
  have hi:i<1:=hi;obtain rfl:i=0:=by omega
  exact⟨nP g2,h.k0,hP⟩) (by show 2<=17592186043904;omega) (by show 1<=17592186043904;omega) w' hb
theorem VA{w:World}{b g c r i lo g2:Nat}{v:Value}(h:PT w b g c r i)(hk:K1At w lo g2 v)(off:Int):Calls Tryz.prog 117 #[.pointer (some ⟨b,0,none⟩),.agg #[.int .u8 57,.int .i64 0,.string ⟨#[]⟩,v],.int .i64 off] w fun e w'=>e=.returned (.tuple #[])∧Below w.heap.size w w':=by
 obtain⟨g3,cap,rfl,ht⟩:=Bk.K1At.tree hk;have H:=aA h;have HT:=aA ht;clear h hk ht;go_enter Tryz.func117,Tryz.ntmps117;go_upto_region 1 with fail;refine aB ?_;intro w1 aF;have aG:Below w.heap.size w w1:=by rw[aF];go_grown
 have K1:Blk w1 w.heap.size 26 #[.int .u8 57,.int .i64 0,.string ⟨#[]⟩,.slice (some ⟨g3,0,none⟩) 1 cap]:=by rw[aF];exact aQ
 have a9:=aA K1;have aO:=aA aG;have H1:=aA (H.out.next aG);clear aF aG K1;obtain⟨T7,I0,G5⟩:=H1.out.pa.blk.open_;obtain⟨G2,xT,E0⟩:=a9.out.open_;go_wp2_with fail;refine(LY (aH _) HT.out w1 aO.out).mono ?_;rintro en w2 ⟨rfl,hb2⟩;have aP:=aA (aO.out.next hb2);have bI:=aA (a9.out.next hb2);clear hb2 T7 I0 G5 G2 xT E0;obtain⟨G2,xT,E0⟩:=bI.out.open_;go_wp2_with fail;refine(VE (aH _) HT.out w2 aP.out).mono ?_;rintro en w3 ⟨rfl,aT⟩;have bD:=aA (aP.out.next aT);clear aT G2 xT E0;go_wp2_with fail;refine bodyPost_end (results_none rfl _ _ _) rfl ?_;exact⟨rfl,bD.out⟩
theorem En{w:World}{b g c r:Nat}(h:PT w b g c r 3):Calls Tryz.prog 81 #[.pointer (some ⟨b,0,none⟩)] w fun e w'=>(∃g2 v,e=.returned (.agg #[.int .u8 57,.int .i64 0,.string ⟨#[]⟩,v])∧K1At w' w.heap.size g2 v)∧PT w' b g c r 9∧Fr (· =b) w w':=by
 have ft2:=Z5;have H:=aA h;have IY:=h.pa.blk.lt;clear h;go_enter Tryz.func81,Tryz.ntmps81;go_upto_region 1 with fail;refine aB ?_;intro w1 aF;have aG:Below w.heap.size w w1:=by rw[aF];go_grown
 have K1:Blk w1 w.heap.size 26 #[.int .u8 0,.int .i64 0,.string ⟨#[]⟩,.slice none 0 0]:=by rw[aF];exact aQ
 have a9:=aA K1;have iL:=aA (Fr.of (O:=(· =b)) aG);have H1:=aA (H.out.next aG);clear aF aG K1;go_wp2_with fail;refine(iH H1.out.pa (3,⟨#[123]⟩,11) rfl).mono ?_;rintro en w2 ⟨rfl,hb2⟩;have H2:=aA (H1.out.next hb2);have lG:=aA (iL.out.next hb2);have bI:=aA (a9.out.next hb2);clear hb2;go_wp2_with fail;refine(UF H2.out).mono ?_;rintro en w3 ⟨⟨g2,v,rfl,rH⟩,h3,kE⟩;have H3:=aA h3;have jK:=aA (lG.out.trans kE);have dD:=aA (kE.blk bI.out (by omega));have Xi:=aA rH;have OL:w.heap.size<w2.heap.size:=bI.out.lt;have WC:=kE.size;obtain⟨zE,zV,rfl⟩:=aI rH.1;clear h3 kE rH;go_upto_region 3 with fail;refine aB ?_;intro w4 qI;have bV:Below w3.heap.size w3 w4:=by rw[qI];go_grown
 have KN:Blk w4 w3.heap.size 26 #[.int .u8 57,.int .i64 0,.string ⟨#[]⟩,.slice zE 1 zV]:=by rw[qI];exact aQ
 have YC:=aA KN;have H4:=aA (H3.out.next bV);have l9:=aA (jK.out.next bV);have eG:=aA (dD.out.next bV);have SA:=aA (Xi.out.fr (Fr.of (O:=fun _=>False) bV) (fun _ _ _ h=>h));clear qI bV KN;obtain⟨z_N,Zx,Vn⟩:=YC.out.open_;go_wp2_with fail;refine(VA H4.out SA.out 11).mono ?_;rintro en w5 ⟨rfl,cW⟩;have H5:=aA (H4.out.next cW);have s7:=aA (l9.out.next cW);have lX:=aA (eG.out.next cW);have Mc:=aA (YC.out.next cW);have Xj:=aA (SA.out.fr (Fr.of (O:=fun _=>False) cW) (fun _ _ _ h=>h));clear cW z_N Zx Vn;obtain⟨z_N,Zx,Vn⟩:=Mc.out.open_;obtain⟨Tf,Nr,Jz⟩:=lX.out.open_;go_wp2_with fail;have K9:=(((lX.out.set_ 0 (.int .u8 57)).set_ 1 (.int .i64 0)).set_ 2 (.string ⟨#[]⟩)).set_ 3 (.slice zE 1 zV);refine bodyPost_ret_by (results_cell_row rfl _ _ w.heap.size 26 #[.int .u8 57,.int .i64 0,.string ⟨#[]⟩,.slice zE 1 zV] _ _ rfl (show Blk _ w.heap.size 26 #[.int .u8 57,.int .i64 0,.string ⟨#[]⟩,.slice zE 1 zV] by simpa using K9) Tryz.underlying26 rfl (by rw[fH];rfl)) rfl ?_;have xE:=Fr.set (Fr.set (Fr.set (Fr.set (Fr.refl (· =w.heap.size) w5) (p:=⟨w.heap.size,0,none⟩) rfl (.int .u8 57)) (p:=⟨w.heap.size,1,none⟩) rfl (.int .i64 0)) (p:=⟨w.heap.size,2,none⟩) rfl (.string ⟨#[]⟩)) (p:=⟨w.heap.size,3,none⟩) rfl (.slice zE 1 zV);have hk:=Xj.out.fr xE (fun k h1 _ h2=>by omega)
 exact⟨⟨g2,.slice zE 1 zV,rfl,dZ hk.1 (by omega),hk.2.1,by have:=hk.2.2;omega⟩,H.out.fin H5.out s7.out (aH _) _ _ _ _⟩
theorem FW{w:World}{b g c r:Nat}(h:PT w b g c r 0):Calls Tryz.prog 75 #[.pointer (some ⟨b,0,none⟩)] w fun e w'=>e=.returned (.bool true)∧Below w.heap.size w w':=by
 have ft1:=fD;have G9:=aA (iH h.pa (1,⟨#[105,110,116]⟩,0) rfl);clear h;go_enter Tryz.func75,Tryz.ntmps75;go_wp2_with fail;refine G9.out.mono ?_;rintro en w1 ⟨rfl,aG⟩;have aO:=aA aG;clear aG G9;go_wp2_with fail;go_ret;exact⟨rfl,aO.out⟩
theorem FV{w:World}{b g c r:Nat}(h:PT w b g c r 2):Calls Tryz.prog 75 #[.pointer (some ⟨b,0,none⟩)] w fun e w'=>e=.returned (.bool false)∧Below w.heap.size w w':=by
 have ft1:=fD;have G9:=aA (iH h.pa (1,⟨#[109,97,105,110]⟩,6) rfl);clear h;go_enter Tryz.func75,Tryz.ntmps75;go_wp2_with fail;refine G9.out.mono ?_;rintro en w1 ⟨rfl,aG⟩;have aO:=aA aG;clear aG G9;go_wp2_with fail;go_ret;exact⟨rfl,aO.out⟩
theorem AW:(Tryz.prog.info? 72).map (·.size)=some 3:=by kernel_rfl
theorem Eo{w:World}{b g c r:Nat}(h:PT w b g c r 0):Calls Tryz.prog 78 #[.pointer (some ⟨b,0,none⟩)] w fun e w'=>e=.returned (.agg #[.string ⟨#[120]⟩,.int .u8 1,.int .i64 0])∧PT w' b g c r 2∧Fr (· =b) w w':=by
 have H:=aA h;have IY:=h.pa.blk.lt;clear h;go_enter Tryz.func78,Tryz.ntmps78;go_upto_region 1 with fail;refine aB ?_;intro w1 aF;have aG:Below w.heap.size w w1:=by rw[aF];go_grown
 have K1:Blk w1 w.heap.size 72 #[.string ⟨#[]⟩,.int .u8 0,.int .i64 0]:=by rw[aF];exact aQ
 have a9:=aA K1;have iL:=aA (Fr.of (O:=(· =b)) aG);have H1:=aA (H.out.next aG);clear aF aG K1;go_wp2_with fail;refine(DA H1.out (1,⟨#[105,110,116]⟩,0) rfl).mono ?_;rintro en w2 ⟨rfl,h2,iJ⟩;have H2:=aA h2;have lG:=aA (iL.out.trans iJ);have bI:=aA (iJ.blk a9.out (by omega));clear h2 iJ;go_wp2_with fail;refine(M1 H2.out 4 rfl).mono ?_;rintro en w3 ⟨rfl,h3,kE⟩;have H3:=aA h3;have jK:=aA (lG.out.trans kE);have dD:=aA (kE.blk bI.out (by omega));clear h3 kE;obtain⟨XQ,SZ,RG⟩:=dD.out.open_;go_wp2_with fail;have K9:=((dD.out.set_ 0 (.string ⟨#[120]⟩)).set_ 1 (.int .u8 1)).set_ 2 (.int .i64 0);refine bodyPost_ret_by (results_cell_row rfl _ _ w.heap.size 72 #[.string ⟨#[120]⟩,.int .u8 1,.int .i64 0] _ _ rfl (show Blk _ w.heap.size 72 #[.string ⟨#[120]⟩,.int .u8 1,.int .i64 0] by simpa using K9) Tryz.underlying72 rfl (by rw[AW];rfl)) rfl ?_;have hg:=H.out.pa.ne.2.1;have hr:=H.out.ne.2;exact⟨rfl,H3.out.other (O:=(· =w.heap.size)) (Fr.set (Fr.set (Fr.set (Fr.refl (· =w.heap.size) _) rfl _) rfl _) rfl _) (by omega) (by omega) (by omega),eW (eW (eW jK.out (aH _) _) (aH _) _) (aH _) _⟩
def PrgAt(w:World)(lo:Nat)(vv:Value)(g2:Nat)(v:Value):Prop:=w.ownsRow lo 72 3 vv 1 [.string ⟨#[120]⟩,.int .u8 1,.int .i64 0]∧K1At w lo g2 v
theorem PrgAt.fr{w w':World}{lo g2:Nat}{vv v:Value}{O:Nat->Prop}(h:PrgAt w lo vv g2 v)(hf:Fr O w w')(hO:∀k,lo<=k->k<w.heap.size->¬O k):PrgAt w' lo vv g2 v:=
 ⟨bL h.1 hf (fun k hk=>hO k (bH h.1 hk).1 (bH h.1 hk).2),h.2.fr hf hO⟩
theorem PrgAt.low{w:World}{lo lo' g2:Nat}{vv v:Value}(h:PrgAt w lo vv g2 v)(hl:lo'<=lo):PrgAt w lo' vv g2 v:=⟨dZ h.1 hl,dZ h.2.1 hl,h.2.2.1,fC hl h.2.2.2⟩
theorem sC:(Tryz.prog.info? 28).map (·.size)=some 6:=by kernel_rfl
theorem MF{w:World}{b g c r:Nat}(h:PT w b g c r 9):Calls Tryz.prog 49 #[.pointer (some ⟨b,0,none⟩)] w fun e w'=>e=.returned (.tuple #[])∧Below w.heap.size w w':=by
 obtain⟨T7,I0,G5⟩:=h.pa.blk.open_;clear h;go_enter Tryz.func49,Tryz.ntmps49;go_upto_region 0 with fail;go_quiet (fail);go_wp2_with fail;refine bodyPost_end (results_none rfl _ _ _) rfl ?_;exact⟨rfl,Bk.drewN_ (aM _ _) _⟩
theorem GB{w:World}{b g c r:Nat}(h:PT w b g c r 0):Calls Tryz.prog 48 #[.pointer (some ⟨b,0,none⟩)] w fun e w'=>(∃vv g2 v,e=.returned (.agg #[vv,.slice none 0 0,.int .u8 57,.int .i64 0,.string ⟨#[]⟩,v])∧PrgAt w' w.heap.size vv g2 v)∧PT w' b g c r 9∧Fr (· =b) w w':=by
 have H:=aA h;have IY:=h.pa.blk.lt;have hnb:w.heap.size+1≠b:=by omega
 have ft1:=fD;obtain⟨i3,li,lz,ls,lb⟩:=info_parts nU;have HI:=aA li;have HZ:=aA lz;have lI:=aA ls;have jY:=aA lb;clear h li lz ls lb;go_enter Tryz.func48,Tryz.ntmps48;go_upto_region 2 with fail;refine aB ?_;intro w1 aF;have aG:Below w.heap.size w w1:=by rw[aF];go_grown
 have K1:Blk w1 w.heap.size 28 #[.slice none 0 0,.slice none 0 0,.int .u8 0,.int .i64 0,.string ⟨#[]⟩,.slice none 0 0]:=by rw[aF];exact Blk.alloc (Blk.new _ _ _) _
 have KX:Blk w1 (w.heap.size+1) 28 #[.slice none 0 0,.slice none 0 0,.int .u8 0,.int .i64 0,.string ⟨#[]⟩,.slice none 0 0]:=by rw[aF];exact Blk.new' (by simp) _ _
 have a9:=aA K1;have Nl:=aA KX;have iL:=aA (Fr.of (O:=(· =b)) aG);have H1:=aA (H.out.next aG);clear aF aG K1 KX
 go_loopw [] (fun wr=>((PT wr b g c r 0∧Blk wr (w.heap.size+1) 28 #[.slice none 0 0,.slice none 0 0,.int .u8 0,.int .i64 0,.string ⟨#[]⟩,.slice none 0 0])∨∃vv,PT wr b g c r 2∧Blk wr (w.heap.size+1) 28 #[vv,.slice none 0 0,.int .u8 0,.int .i64 0,.string ⟨#[]⟩,.slice none 0 0]∧wr.ownsRow (w.heap.size+2) 72 3 vv 1 [.string ⟨#[120]⟩,.int .u8 1,.int .i64 0])∧Blk wr w.heap.size 28 #[.slice none 0 0,.slice none 0 0,.int .u8 0,.int .i64 0,.string ⟨#[]⟩,.slice none 0 0]∧Fr (· =b) w wr) (fun wr=>(9-intOf ((wr.cell? ⟨b,1,none⟩).getD undef)).toNat)
 case atStart=>exact⟨.inl ⟨H1.out,Nl.out⟩,a9.out,iL.out⟩
 case round=>
  obtain⟨hst,hk,hf⟩:=hrel;have QM:=aA hk;have Li:=aA hf;clear hk hf;rcases hst with⟨hp,hx⟩|⟨vv,hp,hx,hv⟩
  ·have Hr:=aA hp;have Dj:=aA hx
   have nS:wr.cell? ⟨b,1,none⟩=some (.int .i64 0):=hp.pa.blk.cell 1;clear hp hx;go_wp2_with fail;refine(FW Hr.out).mono ?_;rintro en w4 ⟨rfl,bV⟩;have H4:=aA (Hr.out.next bV);have l9:=aA (Li.out.next bV);have eG:=aA (QM.out.next bV);have lZ:=aA (Dj.out.next bV);clear bV;obtain⟨Tg,Ns,Ka⟩:=lZ.out.open_;go_upto_region 5 with fail;clear Tg Ns Ka;refine dN (S:=fun W=>Fr (· =b) w4 W) 7 (by kernel_rfl) ((Fr.refl _ _).drew) (fun hH=>?_);refine dK ?_;intro wa bP;have hX:Below w4.heap.size w4 wa:=by rw[bP];exact(aM _ _).drew
   replace hH:Fr (· =b) w4 wa:=Fr.of hX;clear bP;refine aV (i:=0) (v:=?_) rfl (by kernel_rfl) (by kernel_rfl) (by kernel_rfl) (by kernel_rfl) (fun _ _ _ h=>h) (Or.inl ⟨by rfl,?hy⟩) hH ?_
   case hy=>(intro bW aN;clear aN;go_simp;try with_reducible rfl)
   (try simp only[PU,aD])
   refine aV (i:=1) (v:=?_) rfl (by kernel_rfl) (by kernel_rfl) (by kernel_rfl) (by kernel_rfl) (fun _ _ _ h=>h) (Or.inl ⟨by rfl,?hy⟩) hH ?_
   case hy=>(intro bW aN;have t:=(aN.blk lZ.out hnb).cell;clear aN;go_simp;try with_reducible rfl)
   (try simp only[PU,aD])
   refine aV (i:=2) (v:=?_) rfl (by kernel_rfl) (by kernel_rfl) (by kernel_rfl) (by kernel_rfl) (fun _ _ _ h=>h) (Or.inl ⟨by rfl,?hy⟩) hH ?_
   case hy=>(intro bW aN;clear aN;go_simp;try with_reducible rfl)
   (try simp only[PU,aD])
   refine bQ (i:=3) rfl (by kernel_rfl) (fun K hK=>?_);go_simp;refine(Eo (H4.out.next hX)).mono ?_;rintro en wb ⟨rfl,hp,yL⟩;replace hH:Fr (· =b) w4 wb:=(Fr.of hX).trans yL;have IR:=aA hp;have F7:=aA hX.size;have Hh:=yL.size;clear hX hp yL;refine hK.out _ _ hH (fun _=>?_);clear hK;(try simp only[PU,aD])
   refine bQ (i:=4) rfl (by kernel_rfl) (fun K hK=>?_);go_simp;replace hH:=hH.next ((aM _ _).alloc (aH _) (.cells #[.string ⟨#[120]⟩,.int .u8 1,.int .i64 0] 72));refine hK.out _ _ hH (fun _=>?_);clear hK;(try simp only[PU,aD])
   refine dK ?_;intro wc bS;have aR:Below wb.heap.size wb wc:=by rw[bS];exact(aM _ _).alloc (aH _) _
   have W6:=aA (show Blk wc wb.heap.size 72 #[.string ⟨#[120]⟩,.int .u8 1,.int .i64 0] by rw[bS];exact Blk.new _ _ _);replace IR:=aA (IR.out.next aR);have jL:=aR.size;rw[<-bS]at hH;clear bS aR;refine bQ (i:=5) rfl (by kernel_rfl) (fun K hK=>?_);rw[if_pos (by rfl)];refine e8 (.tmp 16) (.tmp 19) 22 rfl 72 i3 _ 3 32 Tryz.underlying22 HI.out HZ.out lI.out jY.out rfl (by decide) (D:=fun _=>True) (A:=none) (n:=0) (xs:= []) (by simp[Act.eval]) Sl.nil ⟨wb.heap.size,0,none⟩ 1 1 [.string ⟨#[120]⟩,.int .u8 1,.int .i64 0] (by simp[Act.eval]) (by decide) rfl (by intro j u hu;rw[Addr.add_lit,Nat.zero_add];exact(W6.out.cell j).trans (by rw[List.getElem?_toArray];exact hu)) (by unfold maxLen;omega) (by omega) ?_;intro v_2 wd O4 aR;have bB:wd.ownsRow wc.heap.size 72 3 v_2 1 [.string ⟨#[120]⟩,.int .u8 1,.int .i64 0]:=O4;clear O4;obtain⟨iS,iT,rfl⟩:=aI bB;replace hH:=hH.next aR;replace IR:=aA (IR.out.next aR);have lY:=aA bB;have hz_:=aR.size;clear bB aR;refine hK.out _ _ hH (fun _=>?_);clear hK;(try simp only[PU,aD])
   refine aV (i:=6) (v:=?_) rfl (by kernel_rfl) (by kernel_rfl) (by kernel_rfl) (by kernel_rfl) (fun _ _ _ h=>h) (Or.inl ⟨by rfl,?hy⟩) hH ?_
   case hy=>(intro bW aN;clear aN;go_simp;try with_reducible rfl)
   (try simp only[PU,aD])
   refine fK (l:=7) rfl (by kernel_rfl) (by kernel_rfl) (fun K hK=>?_);have IG:wd.frozen? ⟨w.heap.size+1,0,none⟩=false:=(hH.blk lZ.out hnb).frozen 0;have C_f:wd.cell? ⟨w.heap.size+1,0,none⟩=some (.slice none 0 0):=(hH.blk lZ.out hnb).cell 0;go_simp;refine hK.out _ _ ?_;clear hK;(try simp only[PU,aD])
   have HH:=aA hH;have Zq:=aA (hH.blk lZ.out hnb);have hzh:=hH.size;clear hH;have gR:=H.out.pa.ne.2.1;have Ro:=H.out.ne.2;have xK:w.heap.size+1<w4.heap.size:=lZ.out.lt;have hxz:=F7.out;go_wp2_with fail;have r9:Fr (· =w.heap.size+1) wd (wd.setCell ⟨w.heap.size+1,0,none⟩ (.slice iS 1 iT)):=Fr.set (Fr.refl (· =w.heap.size+1) _) rfl _;have Ga:(wd.setCell ⟨w.heap.size+1,0,none⟩ (.slice iS 1 iT)).cell? ⟨b,1,none⟩=some (.int .i64 2):=(IR.out.other r9 hnb.symm (by omega) (by omega)).pa.blk.cell 1;exact⟨⟨.inr ⟨.slice iS 1 iT,IR.out.other r9 hnb.symm (by omega) (by omega),by simpa using Zq.out.set_ 0 (.slice iS 1 iT),bL (dZ lY.out (base':=w.heap.size+2) (by omega)) r9 (fun k h1 h2=>by have:=(bH lY.out h1).1;omega)⟩,r9.blk (HH.out.blk eG.out (by omega)) (by omega),eW (l9.out.trans HH.out) (Nat.le_succ _) _⟩,by rw[nS,Ga];decide⟩
  ·have Hr:=aA hp;have Dj:=aA hx;have HVr:=aA hv
   clear hp hx hv;go_wp2_with fail;refine(FV Hr.out).mono ?_;rintro en w4 ⟨rfl,bV⟩;have H4:=aA (Hr.out.next bV);have l9:=aA (Li.out.next bV);have eG:=aA (QM.out.next bV);have lZ:=aA (Dj.out.next bV);have HV4:=aA (bL HVr.out (Fr.of (O:=fun _=>False) bV) (fun _ _ h=>h));clear bV;go_upto_region 6 with fail
   go_loopw [] (fun wq=>w4=wq) (fun _=>0)
   case atStart=>rfl
   case round=>
   obtain rfl:=hrel;go_wp2_with fail;refine(iH H4.out.pa (1,⟨#[109,97,105,110]⟩,6) rfl).mono ?_;rintro en w5 ⟨rfl,cW⟩;have H5:=aA (H4.out.next cW);have s7:=aA (l9.out.next cW);have lX:=aA (eG.out.next cW);have gP:=aA (lZ.out.next cW);have Ue:=aA (bL HV4.out (Fr.of (O:=fun _=>False) cW) (fun _ _ h=>h));clear cW;go_wp2_with fail;refine(Z3 H5.out (1,⟨#[109,97,105,110]⟩,6) rfl).mono ?_;rintro en w6 ⟨rfl,h6,wS⟩;have H6:=aA h6;have pQ:=aA (s7.out.trans wS);have oF:=aA (wS.blk lX.out (by omega));have kD:=aA (wS.blk gP.out hnb);have Zn:=aA (bL Ue.out wS (fun k h1 h2=>by have:=(bH Ue.out h1).1;omega));clear h6 wS;go_wp2_with fail;refine(En H6.out).mono ?_;rintro en w7 ⟨⟨g2,v,rfl,rH⟩,h7,N7⟩;have H7:=aA h7;have E6:=aA (pQ.out.trans N7);have E8:=aA (N7.blk oF.out (by omega));have uF:=aA (N7.blk kD.out hnb);have Jn:w.heap.size+1<w6.heap.size:=kD.out.lt;have j5:Hid (PrgAt w7 (w.heap.size+2) vv g2 v):=aA ⟨bL Zn.out N7 (fun k h1 h2=>by have:=(bH Zn.out h1).1;omega),dZ rH.1 (by omega),rH.2.1,by have:=rH.2.2;omega⟩;obtain⟨zE,zV,rfl⟩:=aI rH.1;obtain⟨Jv,Oa,rfl⟩:=aI Zn.out;clear h7 N7 rH;have gR:=H.out.pa.ne.2.1;have Ro:=H.out.ne.2;obtain⟨Tg,Ns,Ka⟩:=uF.out.open_;go_upto_region 12 with fail;refine aB ?_;intro w8 Vg
   have lQ:Fr (· =w.heap.size+1) w7 w8:=by rw[Vg];exact Fr.set (Fr.set (Fr.set (Fr.set (Fr.refl (· =w.heap.size+1) _) rfl _) rfl _) rfl _) rfl _
   have pR:Hid (Fr (· =b) w w8):=aA (by rw[Vg];exact eW (eW (eW (eW E6.out (Nat.le_succ _) _) (Nat.le_succ _) _) (Nat.le_succ _) _) (Nat.le_succ _) _);have U3:Hid (Blk w8 (w.heap.size+1) 28 #[.slice Jv 1 Oa,.slice none 0 0,.int .u8 57,.int .i64 0,.string ⟨#[]⟩,.slice zE 1 zV]):=aA (by rw[Vg];simpa using(((uF.out.set_ 2 (.int .u8 57)).set_ 3 (.int .i64 0)).set_ 4 (.string ⟨#[]⟩)).set_ 5 (.slice zE 1 zV));have H8:=aA (H7.out.other lQ hnb.symm (by omega) (by omega));have U1:=aA (lQ.blk E8.out (by omega));have Yi:=aA (j5.out.fr lQ (fun k h1 _ h2=>by omega));clear Vg lQ Tg Ns Ka;obtain⟨Tg,Ns,Ka⟩:=U3.out.open_;obtain⟨Tf,Nr,Jz⟩:=U1.out.open_;go_wp2_with fail;have K9:=(((((U1.out.set_ 0 (.slice Jv 1 Oa)).set_ 1 (.slice none 0 0)).set_ 2 (.int .u8 57)).set_ 3 (.int .i64 0)).set_ 4 (.string ⟨#[]⟩)).set_ 5 (.slice zE 1 zV);refine bodyPost_ret_by (results_cell_row rfl _ _ w.heap.size 28 #[.slice Jv 1 Oa,.slice none 0 0,.int .u8 57,.int .i64 0,.string ⟨#[]⟩,.slice zE 1 zV] _ _ rfl (show Blk _ w.heap.size 28 #[.slice Jv 1 Oa,.slice none 0 0,.int .u8 57,.int .i64 0,.string ⟨#[]⟩,.slice zE 1 zV] by simpa using K9) Tryz.underlying28 rfl (by rw[sC];rfl)) rfl ?_
   have xE:=Fr.set (Fr.set (Fr.set (Fr.set (Fr.set (Fr.set (Fr.refl (· =w.heap.size) w8) (p:=⟨w.heap.size,0,none⟩) rfl (.slice Jv 1 Oa)) (p:=⟨w.heap.size,1,none⟩) rfl (.slice none 0 0)) (p:=⟨w.heap.size,2,none⟩) rfl (.int .u8 57)) (p:=⟨w.heap.size,3,none⟩) rfl (.int .i64 0)) (p:=⟨w.heap.size,4,none⟩) rfl (.string ⟨#[]⟩)) (p:=⟨w.heap.size,5,none⟩) rfl (.slice zE 1 zV);exact⟨⟨_,g2,_,rfl,(Yi.out.fr xE (fun k h1 _ h2=>by omega)).low (by omega)⟩,H8.out.other xE (by omega) (by omega) (by omega),eW (eW (eW (eW (eW (eW pR.out (aH _) _) (aH _) _) (aH _) _) (aH _) _) (aH _) _) (aH _) _⟩
end Go.Proofs.YtakfdnnlhjhcfaaGreatDoor
