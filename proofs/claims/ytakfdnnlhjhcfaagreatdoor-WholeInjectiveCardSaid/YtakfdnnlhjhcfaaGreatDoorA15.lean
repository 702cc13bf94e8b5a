/- Part of the proof. -/
import Derived.Test.YtakfdnnlhjhcfaaGreatDoorA14
set_option linter.unusedVariables false
set_option linter.unusedSimpArgs false
set_option maxRecDepth 100000
set_option maxHeartbeats 4000000
namespace Bk
def WN(op:Int)(σ:PSt)(c1 i:Nat)(l1:List Int)(c2:Nat)(l2:List Int):Rs:=
 if op=44 then(if 1000<=l2.length then .error 5 else .ok {σ with cells:=(σ.cells.set c2 (l2++ [l1.getD i 0])).set c1 (l1.set i 0)})
 else if l2.length=0 then .error 13 else if l1.getD i 0≠0 then .error 14 else .ok {σ with cells:=(σ.cells.set c1 (l1.set i (l2.getLastD 0))).set c2 l2.dropLast}
def BU(q:Rs):Int:=match q with|.error x=>x|.ok _=>0
end Bk
namespace Go.Proofs.YtakfdnnlhjhcfaaGreatDoor
open Go.RowKit Bk
theorem RetS.ret{B:Nat}{S:Sv}{w:World}{q:Rs}{e:Ending}{w':World}(h:RetS B S w q e w'):e=.returned (.int .i64 (BU q))∧Fr S.O w w':=by
 cases q with
 |error x=>exact⟨h.1,h.2.2⟩
 |ok σ=>exact⟨h.1,h.2.2⟩
theorem RetS.pre{B:Nat}{S:Sv}{w w1:World}{q:Rs}{e:Ending}{w':World}(hb:Below w.heap.size w w1)(h:RetS B S w1 q e w'):RetS B S w q e w':=by
 cases q with
 |error x=>exact⟨h.1,h.2.1,(Fr.of hb).trans h.2.2⟩
 |ok σ=>
  obtain⟨h1,⟨S',r1,r2⟩,h3⟩:=h;exact⟨h1,⟨S',r1,r2.1,fun k hk=>r2.2 k (dX hk hb.size)⟩,(Fr.of hb).trans h3⟩
section
variable{w:World}{B d:Nat}{S:Sv}{σ:PSt}{kd:Nat->Int}{m:Nat}
theorem TQ(h:SOn w B S σ)(hB:B<=w.heap.size){op:Int}(fY:op=44∨op=45){c1 c2 i g cp:Nat}{l1 l2:List Int}(rX:σ.cells[c1]?=some l1)(rY:σ.cells[c2]?=some l2)(dG:c1≠c2)(he:S.iv c1=.slice (some ⟨g,0,none⟩) l1.length cp)(hi:i<l1.length)(hn:l2.length<=1000):
  Calls Tryz.prog 161 #[.int .u8 op,.pointer (some ⟨g,i,none⟩),.pointer (some ⟨S.cb c2,0,none⟩)] w fun e w'=>RetS B S w (WN op σ c1 i l1 c2 l2) e w':=by
 have bM:=h.cells c2 l2 rY;have hb:=bM.blk;obtain⟨A,cp2,e2⟩:=aI bM.own;rw[e2]at hb;unfold WN;rcases fY with rfl|rfl
 ·rw[if_pos rfl]
  by_cases h1:1000<=l2.length
  ·rw[if_pos h1]
   exact(TS hb h1).mono fun e w' h=>⟨h.1,by decide,Fr.of h.2⟩
  ·rw[if_neg h1]
   exact(Ef h hB rX rY dG he hi (by omega)).mono fun e w' h=>⟨h.1,h.2.1,h.2.2⟩
 ·rw[if_neg (by decide)]
  by_cases h1:l2.length=0
  ·rw[if_pos h1]
   rw[h1]at hb;exact(Ee hb).mono fun e w' h=>⟨h.1,by decide,Fr.of h.2⟩
  ·rw[if_neg h1]
   by_cases h2:l1.getD i 0=0
   ·rw[if_neg (by omega)]
    exact(Ny h hB rX rY dG he hi (by omega) hn h2).mono fun e w' h=>⟨h.1,h.2.1,h.2.2⟩
   ·rw[if_pos h2]
    obtain⟨g',cp',e',_,_,jM,_⟩:=h.place rX hi;rw[he]at e';injection e' with e' _ _;injection e' with e';injection e' with e' _ _;subst e';exact(Ed hb (by omega) jM h2).mono fun e w' h=>⟨h.1,by decide,Fr.of h.2⟩
theorem Fo(h:SOn w B S σ)(hB:B<=w.heap.size)(ho:σ.Ok kd m)(hm:m<=10000){x y:Nd}{op:Int}(hk:x.k=op)(fY:op=44∨op=45)(hn:x.n=1)(cS:Kid w w.heap.size x 0 y){p:Ex}(hp:p.isPl)(hy:EV w w.heap.size aS p y)(iW:KV w w.heap.size d y)(hf:bN σ.cur.vars p=0)(iJ:dT σ.cur.vars x.nm 3=0):
  ∃(j:Int×Nat)(c:Nat)(l:List Int)(c2:Nat)(l2:List Int),Iu σ kd p.nam j.1 j.2 c l∧Iu σ kd x.nm 3 (i7 x.nm σ.cur.vars).toNat c2 l2∧c≠c2∧
  Calls Tryz.prog 137 #[.pointer (some ⟨S.st,0,none⟩),.agg #[.int .u8 x.k,.int .i64 x.num,.string x.nm,.slice x.A x.n x.cap]] w fun en w'=>RetS B S w (eE σ p (0,0) fun i _=>WN op σ c i l c2 l2) en w':=by
 obtain⟨pk,Ri,hu⟩:=kO hp hf;obtain⟨j,c,l,fM⟩:=ho.pls hu;have HL:=h.lkL ho hm;have nG:=aA (fun W hW=>mN (aH _) HL p y hy hp iW W hW);have iK:=aA (fun W(hW:Below w.heap.size w W)=>rO (h.next hW) ho hm fM.find fM.idx);have mB:=hy.nam hp;rw[<-mB]at iK;clear mB;obtain⟨j2,c2,l2,P0⟩:=ho.pls iJ;have Z7:c≠c2:=fun e=>by have h1:=fM.kd;have h2:=P0.kd;rw[e,h2]at h1;omega
 refine⟨(pk,j),c,l,c2,l2,fM,by rw[i8 P0.find];exact P0,Z7,?_⟩;have JH:=aA (fun W(hW:Below w.heap.size w W)=>rO (h.next hW) ho hm P0.find P0.idx);unfold eE;rw[fM.len];obtain⟨ix,hix⟩:∃ix,c9 σ.look p=ix:=⟨_,rfl⟩;rw[hix]at nG⊢;obtain⟨ri,re⟩:=ix;dsimp only at *;obtain⟨q,hq⟩:∃q:Rs,(if re≠0 then .error re else if(0:Int)≠0 then .error 0 else if ri<0∨(l.length:Int)<=ri then .error 12 else WN op σ c ri.toNat l c2 l2)=q:=⟨_,rfl⟩;rw[hq];have HQ:=aA hq;have Pk:=P0.cell;have aAz:=P0.ml;have bM:=h.cells c l fM.cell;have W8:=aA fM;obtain⟨gk,ok,hA,F9⟩:=Kid.at2 cS;rw[Nat.zero_mul,Nat.add_zero]at F9;have kC:=aA F9;have H:=aA h;have oL:=aA bM.blk;obtain⟨A1,cp1,e1⟩:=aI bM.own;rw[e1]at oL;have T9:=aA e1;have Ux:=fM.ml;have CI:Hid (∀i,i<l.length->∃g cp,S.iv c=.slice (some ⟨g,0,none⟩) l.length cp∧g<w.heap.size∧S.ro g=.items c∧w.cell? ⟨g,i,none⟩=some (.int .i64 (l.getD i 0))∧w.frozen? ⟨g,i,none⟩=false):=aA fun i hi=>h.place fM.cell hi
 have Da:Hid (¬S.O w.heap.size):=aA fun e=>by have:=(h.new _ e).2;omega
 have JQ:Hid (∀i g cp,i<l.length->S.iv c=.slice (some ⟨g,0,none⟩) l.length cp->∀W,Below w.heap.size w W->Calls Tryz.prog 161 #[.int .u8 op,.pointer (some ⟨g,i,none⟩),.pointer (some ⟨S.cb c2,0,none⟩)] W fun e w'=>e=.returned (.int .i64 (BU (WN op σ c i l c2 l2)))∧RetS B S w (WN op σ c i l c2 l2) e w'∧Fr S.O W w'):=aA fun i g cp hi he W hW=>(TQ (h.next hW) (fC hB hW.size) fY fM.cell Pk Z7 he hi aAz).mono fun e w' hr=>⟨hr.ret.1,hr.pre hW,hr.ret.2⟩
 clear hq fM P0 bM HL h cS hy iW ho hu hf iJ e1 hix F9 Pk;obtain⟨k,num,nm,A,n,cap⟩:=x;obtain⟨yk,ynum,ynm,yA,yn,ycap⟩:=y;dsimp only at *;subst hA;have q0:(0:Int)<(n:Int):=by omega
 subst hk;have k40:(k==40)=false:=bqN.2 (by omega);have k41:(k==41)=false:=bqN.2 (by omega);have k42:(k==42)=false:=bqN.2 (by omega);have k43:(k==43)=false:=bqN.2 (by omega);have Jq:(k==44)=true∨(k==44)=false∧(k==45)=true:=by
  rcases fY with h|h<;>subst h<;>simp
 clear fY hn;by_cases h1:re=0;rotate_left
 ·have dG:(re !=0)=true:=bne_iff_ne.2 h1
  go_enter Tryz.func137,Tryz.ntmps137;go_upto_region 1 with fail;refine aB ?_;intro w1 aF;have aG:Below w.heap.size w w1:=(by rw[aF];go_grown);have K1:Blk w1 w.heap.size 26 #[.int .u8 k,.int .i64 num,.string nm,.slice (some ⟨gk,ok,none⟩) n cap]:=(by rw[aF];exact aQ);have a9:=aA K1;have aO:=aA aG;clear aF aG;obtain⟨aL,aJ,aK⟩:=K1.open_;clear K1;obtain⟨c0,c1,c2,c3⟩:=kC.out _ aO.out;go_wp2_with fail;refine(nG.out w1 aO.out).mono ?_;rintro en w2 ⟨rfl,hb2⟩;have aP:=aA (aO.out.next hb2);have bI:=aA (a9.out.next hb2);clear aJ aL aK hb2 c0 c1 c2 c3;obtain⟨aL,aJ,aK⟩:=bI.out.open_;go_wp2_with fail;go_ret;rw[<-HQ.out,if_pos h1];exact⟨rfl,h1,Fr.of aP.out⟩
 subst h1;by_cases h3:ri<0∨(l.length:Int)<=ri
 ·have rL:Hid (q=.error 12):=aA (by rw[<-HQ.out];simp only[ne_eq,not_true_eq_false,if_false,if_pos h3])
  have xC:ri<0∨¬ri<0∧decide ((l.length:Int)<=ri)=true:=by
   rcases h3 with h|h
   ·exact .inl h
   ·by_cases h4:ri<0
    ·exact .inl h4
    ·exact .inr ⟨h4,by simpa using h⟩
  clear h3;go_enter Tryz.func137,Tryz.ntmps137;go_upto_region 1 with fail;refine aB ?_;intro w1 aF;have aG:Below w.heap.size w w1:=(by rw[aF];go_grown);have K1:Blk w1 w.heap.size 26 #[.int .u8 k,.int .i64 num,.string nm,.slice (some ⟨gk,ok,none⟩) n cap]:=(by rw[aF];exact aQ);have a9:=aA K1;have aO:=aA aG;clear aF aG;obtain⟨aL,aJ,aK⟩:=K1.open_;clear K1;obtain⟨c0,c1,c2,c3⟩:=kC.out _ aO.out;go_wp2_with fail;refine(nG.out w1 aO.out).mono ?_;rintro en w2 ⟨rfl,hb2⟩;have aP:=aA (aO.out.next hb2);have bI:=aA (a9.out.next hb2);clear aJ aL aK hb2 c0 c1 c2 c3;obtain⟨aL,aJ,aK⟩:=bI.out.open_;obtain⟨c0,c1,c2,c3⟩:=kC.out _ aP.out;go_wp2_with fail;refine(iK.out w2 aP.out).mono ?_;rintro en w3 ⟨rfl,aT⟩;have bD:=aA (aP.out.next aT);have dD:=aA (bI.out.next aT);clear aJ aL aK aT;(try clear c0 c1 c2 c3);obtain⟨aL,aJ,aK⟩:=dD.out.open_;have e0:=(oL.out.next bD.out).cell 0;rcases xC with xC|⟨xC,Up⟩
  all_goals
   go_wp2_with fail;go_ret;rw[rL.out];exact⟨rfl,by decide,Fr.of bD.out⟩
 obtain⟨i,rfl⟩:∃i:Nat,ri=(i:Int):=⟨ri.toNat,by omega⟩;have hi:i<l.length:=by omega
 obtain⟨g,cp,he,gR,eH,jM,pJ⟩:=CI.out i hi;have W5:=aA he;rw[T9.out]at he;injection he with he _ VS;subst he;subst VS;have j0:(0:Int)<=(i:Int):=by omega
 have j1:(i:Int)<(l.length:Int):=by omega
 have j2:¬((i:Int)<0):=by omega
 have j3:¬((l.length:Int)<=(i:Int)):=by omega
 have Il:=aA h3;have HI:=aA hi;clear jM pJ h3 hi;have SO:Hid (q=WN k σ c i l c2 l2):=aA (by rw[<-HQ.out];simp only[ne_eq,not_true_eq_false,if_false,if_neg Il.out,Int.toNat_natCast]);have Cg:=aA (JQ.out i g cp1 HI.out W5.out);rw[<-SO.out]at Cg;obtain⟨r0,hr0⟩:∃r0,BU q=r0:=⟨_,rfl⟩;rw[hr0]at Cg;clear hr0 JQ HQ;generalize S.cb c2=b2 at *;rcases Jq with So|⟨So,Jq⟩
 all_goals
  go_enter Tryz.func137,Tryz.ntmps137;go_upto_region 1 with fail;refine aB ?_;intro w1 aF;have aG:Below w.heap.size w w1:=(by rw[aF];go_grown);have K1:Blk w1 w.heap.size 26 #[.int .u8 k,.int .i64 num,.string nm,.slice (some ⟨gk,ok,none⟩) n cap]:=(by rw[aF];exact aQ);have a9:=aA K1;have aO:=aA aG;clear aF aG;obtain⟨aL,aJ,aK⟩:=K1.open_;clear K1;obtain⟨c0,c1,c2,c3⟩:=kC.out _ aO.out;go_wp2_with fail;refine(nG.out w1 aO.out).mono ?_;rintro en w2 ⟨rfl,hb2⟩;have aP:=aA (aO.out.next hb2);have bI:=aA (a9.out.next hb2);clear aJ aL aK hb2 c0 c1 c2 c3;obtain⟨aL,aJ,aK⟩:=bI.out.open_;obtain⟨c0,c1,c2,c3⟩:=kC.out _ aP.out;go_wp2_with fail;refine(iK.out w2 aP.out).mono ?_;rintro en w3 ⟨rfl,aT⟩;have bD:=aA (aP.out.next aT);have dD:=aA (bI.out.next aT);clear aJ aL aK aT;(try clear c0 c1 c2 c3);obtain⟨aL,aJ,aK⟩:=dD.out.open_;have e0:=(oL.out.next bD.out).cell 0;go_wp2_with fail;refine wp_region_held_drew (S:=fun W=>Fr S.O w3 W) (by kernel_rfl) ((Fr.refl _ _).drew) (fun hH=>?_);refine aE ?_;intro wa bP;have hX:Below w3.heap.size w3 wa:=by rw[bP];exact(aM _ _).drew
  replace hH:Fr S.O w3 wa:=Fr.of hX;clear bP;refine aW 0 (v:=?_) rfl hH ?_;(try simp only[PU,aD])
  refine cH 1 (v:=?_) rfl ?hy hH ?_
  case hy=>(intro bW aN;have t:=(aN.blk dD.out Da.out).cell;clear aN;go_simp;try with_reducible rfl)
  (try simp only[PU,aD])
  refine aW 2 (v:=?_) rfl hH ?_;(try simp only[PU,aD])
  refine aW 3 (v:=?_) rfl hH ?_;(try simp only[PU,aD])
  refine aW 4 (v:=?_) rfl hH ?_;(try simp only[PU,aD])
  refine cH 5 (v:=?_) rfl ?hy hH ?_
  case hy=>(intro bW aN;have t:=(aN.blk dD.out Da.out).cell;clear aN;go_simp;try with_reducible rfl)
  (try simp only[PU,aD])
  refine cE 6 (by kernel_rfl) rfl (fun K hK=>?_);go_simp;refine(JH.out _ (bD.out.next hX)).mono ?_;rintro en wb ⟨rfl,aR⟩;replace hX:=hX.next aR;refine hK.out _ _ (Fr.of hX) (fun hH=>?_);clear hK;(try simp only[PU,aD])
  clear aR;refine cE 7 (by kernel_rfl) rfl (fun K hK=>?_);go_simp;refine(Cg.out _ (bD.out.next hX)).mono ?_;rintro en wc ⟨rfl,OD,gD⟩;refine hK.out _ _ ((Fr.of hX).trans gD) (fun hH=>?_);clear hK;(try simp only[PU,aD])
  refine aW 8 (v:=?_) rfl hH ?_;(try simp only[PU,aD])
  refine wpAnyH_done (by kernel_rfl) ?_ _;have Cz:=aA OD;clear hX hH OD gD aJ aL aK;go_wp2_with fail;go_ret;exact Cz.out
theorem LO(h:SOn w B S σ)(hB:B<=w.heap.size)(G0:σ.inp.length<=4096)(DL:σ.out.length<=4096){op:Int}(fY:op=46∨op=47∨op=48∨op=49){c i g cp:Nat}{l:List Int}(hc:σ.cells[c]?=some l)(he:S.iv c=.slice (some ⟨g,0,none⟩) l.length cp)(hi:i<l.length):
  Calls Tryz.prog 162 #[.pointer (some ⟨S.st,0,none⟩),.int .u8 op,.pointer (some ⟨g,i,none⟩)] w fun e w'=>RetS B S w (iD op σ c i l) e w':=by
 rcases fY with rfl|rfl|rfl|rfl
 ·exact Eg h hB G0 DL hc he hi
 ·exact LP h hB G0 DL hc he hi
 ·exact TW h hB G0 DL hc he hi
 ·exact FN h hB G0 DL hc he hi
theorem Fq(h:SOn w B S σ)(hB:B<=w.heap.size)(ho:σ.Ok kd m)(hm:m<=10000){x y:Nd}{op:Int}(hk:x.k=op)(fY:op=46∨op=47∨op=48∨op=49)(hn:x.n=1)(cS:Kid w w.heap.size x 0 y){p:Ex}(hp:p.isPl)(hy:EV w w.heap.size aS p y)(iW:KV w w.heap.size d y)(hf:bN σ.cur.vars p=0):
  ∃(j:Int×Nat)(c:Nat)(l:List Int),Iu σ kd p.nam j.1 j.2 c l∧
  Calls Tryz.prog 137 #[.pointer (some ⟨S.st,0,none⟩),.agg #[.int .u8 x.k,.int .i64 x.num,.string x.nm,.slice x.A x.n x.cap]] w fun en w'=>RetS B S w (eE σ p (0,0) fun i _=>iD op σ c i l) en w':=by
 obtain⟨pk,Ri,hu⟩:=kO hp hf;obtain⟨j,c,l,fM⟩:=ho.pls hu;have HL:=h.lkL ho hm;have nG:=aA (fun W hW=>mN (aH _) HL p y hy hp iW W hW);have iK:=aA (fun W(hW:Below w.heap.size w W)=>rO (h.next hW) ho hm fM.find fM.idx);have mB:=hy.nam hp;rw[<-mB]at iK;clear mB;refine⟨(pk,j),c,l,fM,?_⟩;unfold eE;rw[fM.len];obtain⟨ix,hix⟩:∃ix,c9 σ.look p=ix:=⟨_,rfl⟩;rw[hix]at nG⊢;obtain⟨ri,re⟩:=ix;dsimp only at *;obtain⟨q,hq⟩:∃q:Rs,(if re≠0 then .error re else if(0:Int)≠0 then .error 0 else if ri<0∨(l.length:Int)<=ri then .error 12 else iD op σ c ri.toNat l)=q:=⟨_,rfl⟩;rw[hq];have HQ:=aA hq;have bM:=h.cells c l fM.cell;have W8:=aA fM;obtain⟨gk,ok,hA,F9⟩:=Kid.at2 cS;rw[Nat.zero_mul,Nat.add_zero]at F9;have kC:=aA F9;have H:=aA h;have oL:=aA bM.blk;obtain⟨A1,cp1,e1⟩:=aI bM.own;rw[e1]at oL;have T9:=aA e1;have Ux:=fM.ml;have CI:Hid (∀i,i<l.length->∃g cp,S.iv c=.slice (some ⟨g,0,none⟩) l.length cp∧g<w.heap.size∧S.ro g=.items c∧w.cell? ⟨g,i,none⟩=some (.int .i64 (l.getD i 0))∧w.frozen? ⟨g,i,none⟩=false):=aA fun i hi=>h.place fM.cell hi
 have Da:Hid (¬S.O w.heap.size):=aA fun e=>by have:=(h.new _ e).2;omega
 have JQ:Hid (∀i g cp,i<l.length->S.iv c=.slice (some ⟨g,0,none⟩) l.length cp->∀W,Below w.heap.size w W->Calls Tryz.prog 162 #[.pointer (some ⟨S.st,0,none⟩),.int .u8 op,.pointer (some ⟨g,i,none⟩)] W fun e w'=>e=.returned (.int .i64 (BU (iD op σ c i l)))∧RetS B S w (iD op σ c i l) e w'):=aA fun i g cp hi he W hW=>(LO (h.next hW) (fC hB hW.size) ho.inp ho.out fY fM.cell he hi).mono fun e w' hr=>⟨hr.ret.1,hr.pre hW⟩
 clear hq fM bM HL h cS hy iW ho hu hf e1 hix F9;obtain⟨k,num,nm,A,n,cap⟩:=x;obtain⟨yk,ynum,ynm,yA,yn,ycap⟩:=y;dsimp only at *;subst hA;have q0:(0:Int)<(n:Int):=by omega
 subst hk;have k40:(k==40)=false:=bqN.2 (by omega);have k41:(k==41)=false:=bqN.2 (by omega);have k42:(k==42)=false:=bqN.2 (by omega);have k43:(k==43)=false:=bqN.2 (by omega);have So:(k==44)=false:=bqN.2 (by omega);have Jq:(k==45)=false:=bqN.2 (by omega);clear fY hn;by_cases h1:re=0;rotate_left
 ·have dG:(re !=0)=true:=bne_iff_ne.2 h1
  go_enter Tryz.func137,Tryz.ntmps137;go_upto_region 1 with fail;refine aB ?_;intro w1 aF;have aG:Below w.heap.size w w1:=(by rw[aF];go_grown);have K1:Blk w1 w.heap.size 26 #[.int .u8 k,.int .i64 num,.string nm,.slice (some ⟨gk,ok,none⟩) n cap]:=(by rw[aF];exact aQ);have a9:=aA K1;have aO:=aA aG;clear aF aG;obtain⟨aL,aJ,aK⟩:=K1.open_;clear K1;obtain⟨c0,c1,c2,c3⟩:=kC.out _ aO.out;go_wp2_with fail;refine(nG.out w1 aO.out).mono ?_;rintro en w2 ⟨rfl,hb2⟩;have aP:=aA (aO.out.next hb2);have bI:=aA (a9.out.next hb2);clear aJ aL aK hb2 c0 c1 c2 c3;obtain⟨aL,aJ,aK⟩:=bI.out.open_;go_wp2_with fail;go_ret;rw[<-HQ.out,if_pos h1];exact⟨rfl,h1,Fr.of aP.out⟩
 subst h1;by_cases h3:ri<0∨(l.length:Int)<=ri
 ·have rL:Hid (q=.error 12):=aA (by rw[<-HQ.out];simp only[ne_eq,not_true_eq_false,if_false,if_pos h3])
  have xC:ri<0∨¬ri<0∧decide ((l.length:Int)<=ri)=true:=by
   rcases h3 with h|h
   ·exact .inl h
   ·by_cases h4:ri<0
    ·exact .inl h4
    ·exact .inr ⟨h4,by simpa using h⟩
  clear h3;go_enter Tryz.func137,Tryz.ntmps137;go_upto_region 1 with fail;refine aB ?_;intro w1 aF;have aG:Below w.heap.size w w1:=(by rw[aF];go_grown);have K1:Blk w1 w.heap.size 26 #[.int .u8 k,.int .i64 num,.string nm,.slice (some ⟨gk,ok,none⟩) n cap]:=(by rw[aF];exact aQ);have a9:=aA K1;have aO:=aA aG;clear aF aG;obtain⟨aL,aJ,aK⟩:=K1.open_;clear K1;obtain⟨c0,c1,c2,c3⟩:=kC.out _ aO.out;go_wp2_with fail;refine(nG.out w1 aO.out).mono ?_;rintro en w2 ⟨rfl,hb2⟩;have aP:=aA (aO.out.next hb2);have bI:=aA (a9.out.next hb2);clear aJ aL aK hb2 c0 c1 c2 c3;obtain⟨aL,aJ,aK⟩:=bI.out.open_;obtain⟨c0,c1,c2,c3⟩:=kC.out _ aP.out;go_wp2_with fail;refine(iK.out w2 aP.out).mono ?_;rintro en w3 ⟨rfl,aT⟩;have bD:=aA (aP.out.next aT);have dD:=aA (bI.out.next aT);clear aJ aL aK aT;(try clear c0 c1 c2 c3);obtain⟨aL,aJ,aK⟩:=dD.out.open_;have e0:=(oL.out.next bD.out).cell 0;rcases xC with xC|⟨xC,Up⟩
  all_goals
   go_wp2_with fail;go_ret;rw[rL.out];exact⟨rfl,by decide,Fr.of bD.out⟩
 obtain⟨i,rfl⟩:∃i:Nat,ri=(i:Int):=⟨ri.toNat,by omega⟩;have hi:i<l.length:=by omega
 obtain⟨g,cp,he,gR,eH,jM,pJ⟩:=CI.out i hi;have W5:=aA he;rw[T9.out]at he;injection he with he _ VS;subst he;subst VS;have j0:(0:Int)<=(i:Int):=by omega
 have j1:(i:Int)<(l.length:Int):=by omega
 have j2:¬((i:Int)<0):=by omega
 have j3:¬((l.length:Int)<=(i:Int)):=by omega
 have Il:=aA h3;have HI:=aA hi;clear jM pJ h3 hi;have SO:Hid (q=iD k σ c i l):=aA (by rw[<-HQ.out];simp only[ne_eq,not_true_eq_false,if_false,if_neg Il.out,Int.toNat_natCast]);have Cg:=aA (JQ.out i g cp1 HI.out W5.out);rw[<-SO.out]at Cg;obtain⟨r0,hr0⟩:∃r0,BU q=r0:=⟨_,rfl⟩;rw[hr0]at Cg;clear hr0 JQ HQ;go_enter Tryz.func137,Tryz.ntmps137;go_upto_region 1 with fail;refine aB ?_;intro w1 aF;have aG:Below w.heap.size w w1:=(by rw[aF];go_grown);have K1:Blk w1 w.heap.size 26 #[.int .u8 k,.int .i64 num,.string nm,.slice (some ⟨gk,ok,none⟩) n cap]:=(by rw[aF];exact aQ);have a9:=aA K1;have aO:=aA aG;clear aF aG;obtain⟨aL,aJ,aK⟩:=K1.open_;clear K1;obtain⟨c0,c1,c2,c3⟩:=kC.out _ aO.out;go_wp2_with fail;refine(nG.out w1 aO.out).mono ?_;rintro en w2 ⟨rfl,hb2⟩;have aP:=aA (aO.out.next hb2);have bI:=aA (a9.out.next hb2);clear aJ aL aK hb2 c0 c1 c2 c3;obtain⟨aL,aJ,aK⟩:=bI.out.open_;obtain⟨c0,c1,c2,c3⟩:=kC.out _ aP.out;go_wp2_with fail;refine(iK.out w2 aP.out).mono ?_;rintro en w3 ⟨rfl,aT⟩;have bD:=aA (aP.out.next aT);have dD:=aA (bI.out.next aT);clear aJ aL aK aT;(try clear c0 c1 c2 c3);obtain⟨aL,aJ,aK⟩:=dD.out.open_;have e0:=(oL.out.next bD.out).cell 0;go_wp2_with fail;refine(Cg.out w3 bD.out).mono ?_;rintro en w4 ⟨rfl,OD⟩;have Cz:=aA OD;clear OD aJ aL aK e0;go_wp2_with fail
 go_ret;exact Cz.out
end
end Go.Proofs.YtakfdnnlhjhcfaaGreatDoor
namespace Bk
open Go Go.RowKit Go.Proofs.YtakfdnnlhjhcfaaGreatDoor
theorem StAt.upS{w w':World}{B B':Nat}(hb:Below B w w')(hB:B<=B'):∀(d:Nat)(s:Sq)(x:Nd),StAt w B d s x->StAt w' B' d s x
 |0,_,_,h=>h.elim
 |d+1,s,x,h=>by
  have up:=fun(s:Sq)(y:Nd)(h:SqAt w B d s y)=>(⟨h.1,h.2.1,fun i hi=>let ⟨z,a,b⟩:=h.2.2 i hi;⟨z,a.upS hb hB,StAt.upS hb hB d _ _ b⟩⟩:SqAt w' B' d s y)
  cases s with
  |nil=>exact h
  |upd op p e r=>obtain⟨h1,h2,h3,h4,h5,y,z,k0,k1,v0,v1⟩:=h;exact⟨h1,h2,h3,h4,h5,y,z,k0.upS hb hB,k1.upS hb hB,v0.upS hb hB,v1.upS hb hB⟩
  |swp p q r=>obtain⟨h1,h3,h4,h5,h6,y,z,k0,k1,v0,v1⟩:=h;exact⟨h1,h3,h4,h5,h6,y,z,k0.upS hb hB,k1.upS hb hB,v0.upS hb hB,v1.upS hb hB⟩
  |stk op s p r=>obtain⟨h1,h2,h3,h4,h5,h6,h7,y,k0,v0⟩:=h;exact⟨h1,h2,h3,h4,h5,h6,h7,y,k0.upS hb hB,v0.upS hb hB⟩
  |tap op p r=>obtain⟨h1,h2,h3,h4,h5,y,k0,v0⟩:=h;exact⟨h1,h2,h3,h4,h5,y,k0.upS hb hB,v0.upS hb hB⟩
  |cal op s a r=>obtain⟨h1,h2,h3,h4,h5,h6,h7⟩:=h;exact⟨h1,h2,h3,h4,h5,h6,fun i a ha=>let ⟨y,k0,v0⟩:=h7 i a ha;⟨y,k0.upS hb hB,v0.upS hb hB⟩⟩
  |ifs e a b e' r=>obtain⟨h1,h2,y0,y1,y2,y3,k0,k1,k2,k3,v0,v1,v2,v3⟩:=h;exact⟨h1,h2,y0,y1,y2,y3,k0.upS hb hB,k1.upS hb hB,k2.upS hb hB,k3.upS hb hB,v0.upS hb hB,up _ _ v1,up _ _ v2,v3.upS hb hB⟩
  |frm e a b e' r=>obtain⟨h1,h2,y0,y1,y2,y3,k0,k1,k2,k3,v0,v1,v2,v3⟩:=h;exact⟨h1,h2,y0,y1,y2,y3,k0.upS hb hB,k1.upS hb hB,k2.upS hb hB,k3.upS hb hB,v0.upS hb hB,up _ _ v1,up _ _ v2,v3.upS hb hB⟩
  |loc v e b e' r=>obtain⟨h1,h2,h3,y0,y1,y2,k0,k1,k2,v0,v1,v2⟩:=h;exact⟨h1,h2,h3,y0,y1,y2,k0.upS hb hB,k1.upS hb hB,k2.upS hb hB,v0.upS hb hB,up _ _ v1,v2.upS hb hB⟩
  |lst v b r=>obtain⟨h1,h2,h3,y0,k0,v0⟩:=h;exact⟨h1,h2,h3,y0,k0.upS hb hB,up _ _ v0⟩
def Sq.basic:Sq->Prop
 |.upd _ _ _ _|.swp _ _ _|.stk _ _ _ _|.tap _ _ _=>True
 |_=>False
def CY:Sq->PSt->Rs
 |.upd op p e _=>lW op p e
 |.swp p q _=>mF p q
 |.stk op s p _=>kZ op s p
 |.tap op p _=>lA op p
 |_=>fun σ=>.ok σ
def Sq.inv:Sq->Sq
 |.upd op p e r=>.upd (dH op) p e r
 |.stk op s p r=>.stk (dH op) s p r
 |.tap op p r=>.tap (dH op) p r
 |s=>s
end Bk
namespace Go.Proofs.YtakfdnnlhjhcfaaGreatDoor
open Go.RowKit Bk
theorem TL(k:Int)(hk:40<=k∧k<=49)(w:World):Calls Tryz.prog 135 #[.int .u8 k] w fun e w'=>e=.returned (.bool true)∧w=w':=by
 obtain rfl|rfl|rfl|rfl|rfl|rfl|rfl|rfl|rfl|rfl:k=40∨k=41∨k=42∨k=43∨k=44∨k=45∨k=46∨k=47∨k=48∨k=49:=by omega
 all_goals
  go_enter Tryz.func135,Tryz.ntmps135;go_wp2_with fail;go_ret;exact⟨rfl,rfl⟩
theorem FL(k:Int)(w:World):Calls Tryz.prog 134 #[.int .u8 k] w fun e w'=>e=.returned (.int .u8 (dH k))∧w=w':=by
 by_cases h:k=40∨k=41∨k=44∨k=45∨k=46∨k=47∨k=48∨k=49
 ·rcases h with rfl|rfl|rfl|rfl|rfl|rfl|rfl|rfl
  all_goals
   go_enter Tryz.func134,Tryz.ntmps134;go_wp2_with fail;go_ret;exact⟨rfl,rfl⟩
 ·have e0:dH k=k:=by unfold dH;rw[if_neg (by omega),if_neg (by omega),if_neg (by omega),if_neg (by omega),if_neg (by omega),if_neg (by omega),if_neg (by omega),if_neg (by omega)]
  rw[e0];have k40:(k==40)=false:=bqN.2 (by omega);have k41:(k==41)=false:=bqN.2 (by omega);have So:(k==44)=false:=bqN.2 (by omega);have Jq:(k==45)=false:=bqN.2 (by omega);have k46:(k==46)=false:=bqN.2 (by omega);have k47:(k==47)=false:=bqN.2 (by omega);have k48:(k==48)=false:=bqN.2 (by omega);have k49:(k==49)=false:=bqN.2 (by omega);clear h e0;go_enter Tryz.func134,Tryz.ntmps134;go_wp2_with fail;go_ret;exact⟨rfl,rfl⟩
section
variable{w:World}{B b o nv cv d:Nat}{V:Option Addr}{vs:List Vr}{S:Sv}{σ:PSt}{kd:Nat->Int}{m:Nat}
theorem nR(r:Nat->Int):fT r 1=r 0:=by simp[fT]
theorem rT(r:Nat->Int):fT r 2=if r 0≠0 then r 0 else r 1:=by simp only[fT];simp
theorem Ow(bG:B<=w.heap.size)(Un:b<B)(hc:w.cell? ⟨b,o,none⟩=some (.slice V nv cv))(hv:VsAt w B V vs)(hnv:vs.length=nv)(d8:nv<=17592186043904):∀(e:Ex)(x:Nd),EV w B aS e x->JD w B b o x (bN vs e):=by
 have N:=fun x hn rs hk=>DH bG Un hc hv hnv d8 x hn rs hk
 intro e
 induction e with
 |num v=>
  intro x ⟨h1,h2,h3,h4,h5⟩;have:=N x (by omega) (fun _=>0) fun i hi=>by omega
  rw[show rI vs x=0 by unfold rI gI;rw[h1];rfl,h5]at this;exact this
 |var s=>
  intro x ⟨h1,h2,h3,h4,h5⟩;have:=N x (by omega) (fun _=>0) fun i hi=>by omega
  rw[show rI vs x=dT vs s 1 by unfold rI gI;rw[h1,h3];rfl,h5]at this
  rwa [show(if dT vs s 1≠0 then dT vs s 1 else fT (fun _=>0) 0)=bN vs (.var s) by simp only[fT,bN];split<;>omega]at this
 |top s=>
  intro x ⟨h1,h2,h3,h4,h5⟩;have:=N x (by omega) (fun _=>0) fun i hi=>by omega
  rw[show rI vs x=dT vs s 3 by unfold rI gI;rw[h1,h3];rfl,h5]at this
  rwa [show(if dT vs s 3≠0 then dT vs s 3 else fT (fun _=>0) 0)=bN vs (.top s) by simp only[fT,bN];split<;>omega]at this
 |size s=>
  intro x ⟨h1,h2,h3,h4,h5⟩;have:=N x (by omega) (fun _=>0) fun i hi=>by omega
  rw[show rI vs x=dT vs s 3 by unfold rI gI;rw[h1,h3];rfl,h5]at this
  rwa [show(if dT vs s 3≠0 then dT vs s 3 else fT (fun _=>0) 0)=bN vs (.size s) by simp only[fT,bN];split<;>omega]at this
 |item s a ih=>
  intro x ⟨h1,h2,h3,h4,h5,y,h6,h7⟩;have:=N x (by omega) (fun _=>bN vs a) fun i hi=>by obtain rfl:i=0:=(by omega);exact⟨y,h6,ih y h7⟩
  rw[show rI vs x=dT vs s 2 by unfold rI gI;rw[h1,h3];rfl,h5,nR]at this;exact this
 |un op a ih=>
  intro x ⟨h1,h2,h3,h4,h5,y,h6,h7⟩;have:=N x (by omega) (fun _=>bN vs a) fun i hi=>by obtain rfl:i=0:=(by omega);exact⟨y,h6,ih y h7⟩
  rw[show rI vs x=0 by unfold rI gI;rw[if_pos (by split;omega;split;omega;split;omega;rfl)],h5,nR]at this;exact this
 |bin op a b iha ihb=>
  intro x ⟨h1,h2,h3,h4,h5,y,z,h6,h7,h8,h9⟩;have:=N x (by omega) (fun i=>if i=0 then bN vs a else bN vs b) fun i hi=>by
   rcases(show i=0∨i=1 by omega)with rfl|rfl
   ·exact⟨y,h6,iha y h8⟩
   ·exact⟨z,h7,ihb z h9⟩
  rw[show rI vs x=0 by unfold rI gI;rw[if_pos (by split;omega;split;omega;split;omega;rfl)],h5,rT]at this;exact this
def zG(w:World)(S:Sv)(σ:PSt)(x:Nd)(r:Int):Prop:=JD w w.heap.size (S.fb σ) σ.fo x r
theorem SOn.ftEx(h:SOn w B S σ)(hn:σ.cur.vars.length<=17592186043904){e:Ex}{x:Nd}(hx:EV w w.heap.size aS e x):zG w S σ x (bN σ.cur.vars e):=by
 obtain⟨hf,⟨h0,_,_⟩,_,_,hfb⟩:=h.cur;have hv:=hf.vars;obtain⟨A,cp,e⟩:=aI hv;rw[e]at hv h0;exact Ow (aH _) hfb h0 (BQ hv rfl) rfl hn _ x hx
theorem SOn.ftNd(h:SOn w B S σ)(hn:σ.cur.vars.length<=17592186043904)(x:Nd)(V3:x.n<=17592186043904)(rs:Nat->Int)(dE:∀i,i<x.n->∃y,Kid w w.heap.size x i y∧zG w S σ y (rs i)):zG w S σ x (if rI σ.cur.vars x≠0 then rI σ.cur.vars x else fT rs x.n):=by
 obtain⟨hf,⟨h0,_,_⟩,_,_,hfb⟩:=h.cur;have hv:=hf.vars;obtain⟨A,cp,e⟩:=aI hv;rw[e]at hv h0;exact DH (aH _) hfb h0 (BQ hv rfl) rfl hn x V3 rs dE
theorem CR(h:SOn w B S σ)(ho:σ.Ok kd m){x:Nd}(hk:40<=x.k∧x.k<=49)(NR:∀W,Below w.heap.size w W->Calls Tryz.prog 93 #[.agg #[.int .u8 x.k,.int .i64 x.num,.string x.nm,.slice x.A x.n x.cap]] W fun en w''=>en=.returned (.bool true)∧Below W.heap.size W w''){f0:Int}(QV:zG w S σ x f0){q:Rs}(hex:f0=0->∀W,Below w.heap.size w W->Calls Tryz.prog 137 #[.pointer (some ⟨S.st,0,none⟩),.agg #[.int .u8 x.k,.int .i64 x.num,.string x.nm,.slice x.A x.n x.cap]] W fun en w'=>RetS B S W q en w'):
  Calls Tryz.prog 109 #[.pointer (some ⟨S.st,0,none⟩),.agg #[.int .u8 x.k,.int .i64 x.num,.string x.nm,.slice x.A x.n x.cap]] w fun en w'=>RetS B S w (if f0≠0 then .error f0 else q) en w':=by
 have XY:=aA NR;have zH:=aA (fun W=>TL x.k hk W);have CE:Hid (∀W,Below w.heap.size w W->Calls Tryz.prog 130 #[.pointer (some ⟨S.st,0,none⟩)] W fun e w'=>e=.returned (.pointer (some ⟨S.fb σ,σ.fo,none⟩))∧Below W.heap.size W w'):=aA fun W hW=>(gQ (h.next hW) ho.nc).mono fun e w' h=>⟨h.1,by rw[h.2];exact aM _ _⟩
 have W0:=aA QV;obtain⟨r0,hr0⟩:∃r0,BU q=r0:=⟨_,rfl⟩;have IM:Hid (f0=0->∀W,Below w.heap.size w W->Calls Tryz.prog 137 #[.pointer (some ⟨S.st,0,none⟩),.agg #[.int .u8 x.k,.int .i64 x.num,.string x.nm,.slice x.A x.n x.cap]] W fun en w'=>en=.returned (.int .i64 r0)∧RetS B S w q en w'):=aA fun h0 W hW=>(hex h0 W hW).mono fun e w' hr=>⟨by rw[<-hr0];exact hr.ret.1,hr.pre hW⟩
 obtain⟨qq,hqq⟩:∃qq:Rs,(if f0≠0 then .error f0 else q)=qq:=⟨_,rfl⟩;rw[hqq];have SL:=aA hqq;unfold zG JD at W0;generalize S.fb σ=fb at *;generalize σ.fo=fo at *;have k56:(x.k==56)=false:=bqN.2 (by omega);clear h ho NR QV hex hqq hr0 hk;obtain⟨k,num,nm,A,n,cap⟩:=x;dsimp only at *;go_enter Tryz.func109,Tryz.ntmps109;go_upto_region 1 with fail;refine aB ?_;intro w1 aF;have aG:Below w.heap.size w w1:=(by rw[aF];go_grown);have K1:Blk w1 w.heap.size 26 #[.int .u8 k,.int .i64 num,.string nm,.slice A n cap]:=(by rw[aF];exact aQ);have a9:=aA K1;have aO:=aA aG;clear aF aG;obtain⟨aL,aJ,aK⟩:=K1.open_;clear K1;go_wp2_with fail;refine(XY.out w1 aO.out).mono ?_;rintro en w2 ⟨rfl,hb2⟩;have aP:=aA (aO.out.next hb2);have bI:=aA (a9.out.next hb2);clear aJ aL aK hb2;obtain⟨aL,aJ,aK⟩:=bI.out.open_;go_wp2_with fail;refine(zH.out w2).mono ?_;rintro en w3 ⟨rfl,rfl⟩;go_wp2_with fail;refine gJ (by kernel_rfl) (by kernel_rfl) ?_;intro W hW;have AM:Nonempty (JE W):=⟨⟨W,aM _ _⟩⟩;have IJ:=aA (fun z=>Below.next (show Below w.heap.size w W by rw[hW];exact aP.out) (dM W z));have YN:=aA (fun z=>(show Below w2.heap.size w2 (grow W z) by rw[<-hW];exact dM W z));have Z_1:=fun z=>(bI.out.next (w':=grow W z) (by rw[<-hW];exact dM W z)).cell
 have HW:=aA hW;clear hW
 repeat (go_big_quiet_step ((first|(go_at_call 130;with_reducible exact gS (CE.out _ (IJ.out _)))|(go_at_call 136;with_reducible exact gS (W0.out _ (IJ.out _))))))
 refine wpQuiet_nil ?_;rintro _ ⟨z,rfl⟩;have dQ:=aA (IJ.out z);have lZ:=aA (YN.out z);clear Z_1 IJ YN aJ aL aK;generalize grow W z=w4 at *;clear HW AM;by_cases h0:f0=0
 ·have XX:=aA h0
  have dG:(f0 !=0)=false:=bne_eq_false_iff_eq.2 h0;obtain⟨aL,aJ,aK⟩:=(bI.out.next lZ.out).open_;clear h0;go_wp2_with fail;refine(IM.out XX.out w4 dQ.out).mono ?_;rintro en w5 ⟨rfl,hr⟩;have HR:=aA hr;clear hr aJ aL aK;go_wp2_with fail;go_ret;rw[<-SL.out,if_neg (by simpa using XX.out)];exact HR.out
 ·have dG:(f0 !=0)=true:=bne_iff_ne.2 h0
  go_wp2_with fail;go_ret;rw[<-SL.out,if_pos h0];exact⟨rfl,h0,Fr.of dQ.out⟩
theorem Fm{x:Nd}{e:Ex}{B:Nat}(h:EV w B aS e x):j8 w B x=true:=by simp[j8];exact⟨e,h⟩
theorem XH{B d:Nat}{s:Sq}{x:Nd}(h:StAt w B (d+1) s x)(hb:s.basic):D3 w B (d+1) x=true:=by
 unfold D3;dsimp only;cases s with
 |upd op p e r=>
  obtain⟨hk,fY,fM,hn,hp,y,z,k0,k1,v0,v1⟩:=h;rw[if_pos (by omega)];simp only[Bool.and_eq_true,decide_eq_true_eq];refine⟨fM,hn,mL fun i hi=>?_⟩;rcases(show i=0∨i=1 by omega)with rfl|rfl
  ·rw[gH k0];exact kV v0 hp
  ·rw[gH k1];exact Fm v1
 |swp p q r=>
  obtain⟨hk,fM,hn,hp,hq,y,z,k0,k1,v0,v1⟩:=h;rw[if_neg (by omega),if_pos hk];simp only[Bool.and_eq_true,decide_eq_true_eq];refine⟨fM,hn,mL fun i hi=>?_⟩;rcases(show i=0∨i=1 by omega)with rfl|rfl
  ·rw[gH k0];exact kV v0 hp
  ·rw[gH k1];exact kV v1 hq
 |stk op s p r=>
  obtain⟨hk,fY,h0,hnm,hnb,hn,hp,y,k0,v0⟩:=h;rw[if_neg (by omega),if_neg (by omega),if_pos (by omega)];simp only[Bool.and_eq_true,decide_eq_true_eq,jE];refine⟨⟨h0,by rw[hnm];exact hnb⟩,hn,mL fun i hi=>?_⟩;obtain rfl:i=0:=by omega
  rw[gH k0];exact kV v0 hp
 |tap op p r=>
  obtain⟨hk,fY,fM,hn,hp,y,k0,v0⟩:=h;rw[if_neg (by omega),if_neg (by omega),if_neg (by omega),if_pos (by omega)];simp only[Bool.and_eq_true,decide_eq_true_eq];refine⟨fM,hn,mL fun i hi=>?_⟩;obtain rfl:i=0:=by omega
  rw[gH k0];exact kV v0 hp
 |_=>exact hb.elim
theorem sE{B i:Nat}{x y:Nd}(h:KV w B (d+1) x)(hk:Kid w B x i y)(hi:i<x.n):KV w B d y:=by
 obtain⟨_,_,_,_,_,h6⟩:=h;obtain⟨z,h1,h2⟩:=h6 i hi;rw[Kid.one hk h1];exact h2
theorem Nz(hk:(h:SOn w B S σ)->True){x:Nd}(Fu:x.k=56)(NR:∀W,Below w.heap.size w W->Calls Tryz.prog 93 #[.agg #[.int .u8 x.k,.int .i64 x.num,.string x.nm,.slice x.A x.n x.cap]] W fun en w''=>en=.returned (.bool true)∧Below W.heap.size W w''):
  Calls Tryz.prog 109 #[.pointer (some ⟨S.st,0,none⟩),.agg #[.int .u8 x.k,.int .i64 x.num,.string x.nm,.slice x.A x.n x.cap]] w fun en w'=>RetS B S w (.error 9) en w':=by
 have XY:=aA NR;clear NR hk;obtain⟨k,num,nm,A,n,cap⟩:=x;dsimp only at *;have k56:(k==56)=true:=beq_iff_eq.2 Fu;clear Fu;go_enter Tryz.func109,Tryz.ntmps109;go_upto_region 1 with fail;refine aB ?_;intro w1 aF;have aG:Below w.heap.size w w1:=(by rw[aF];go_grown);have K1:Blk w1 w.heap.size 26 #[.int .u8 k,.int .i64 num,.string nm,.slice A n cap]:=(by rw[aF];exact aQ);have a9:=aA K1;have aO:=aA aG;clear aF aG;obtain⟨aL,aJ,aK⟩:=K1.open_;clear K1;go_wp2_with fail;refine(XY.out w1 aO.out).mono ?_;rintro en w2 ⟨rfl,hb2⟩;have aP:=aA (aO.out.next hb2);have bI:=aA (a9.out.next hb2);clear aJ aL aK hb2;obtain⟨aL,aJ,aK⟩:=bI.out.open_;go_wp2_with fail;go_ret;exact⟨rfl,by decide,Fr.of aP.out⟩
theorem Nv(h:SOn w B S σ)(hB:B<=w.heap.size)(ho:σ.Ok kd m)(hm:m<=10000){s:Sq}{x:Nd}(hs:StAt w w.heap.size (d+1) s x)(hb:s.basic)(hv:KV w w.heap.size (d+1) x):
  Calls Tryz.prog 109 #[.pointer (some ⟨S.st,0,none⟩),.agg #[.int .u8 x.k,.int .i64 x.num,.string x.nm,.slice x.A x.n x.cap]] w fun en w'=>RetS B S w (CY s σ) en w':=by
 have NR:∀W,Below w.heap.size w W->Calls Tryz.prog 93 #[.agg #[.int .u8 x.k,.int .i64 x.num,.string x.nm,.slice x.A x.n x.cap]] W fun en w''=>en=.returned (.bool true)∧Below W.heap.size W w'':=fun W hW=>by
  have:=(B6 (aH _) (d+1)).1 x hv W hW
  rwa [XH hs hb]at this
 have gY:σ.cur.vars.length<=17592186043904:=by have:=ho.cur.bd;omega
 have UP:∀{W:World}(hW:Below w.heap.size w W),w.heap.size<=W.heap.size:=fun hW=>hW.size
 cases s with
 |upd op p e r=>
  obtain⟨hk,fY,fM,hn,hp,y,z,k0,k1,v0,v1⟩:=hs;show Calls _ _ _ _ fun en w'=>RetS B S w (lW op p e σ) en w'
  unfold lW;by_cases Fu:op=56
  ·rw[if_pos Fu]
   exact Nz (σ:=σ) (fun _=>trivial) (by omega) NR
  rw[if_neg Fu];have QV:zG w S σ x (rS (bN σ.cur.vars p) (bN σ.cur.vars e)):=by
   have:=h.ftNd gY x (by omega) (fun i=>if i=0 then bN σ.cur.vars p else bN σ.cur.vars e) fun i hi=>by
    rcases(show i=0∨i=1 by omega)with rfl|rfl
    ·exact⟨y,k0,h.ftEx gY v0⟩
    ·exact⟨z,k1,h.ftEx gY v1⟩
   rw[show rI σ.cur.vars x=0 by unfold rI gI;rw[if_pos (by split;omega;split;omega;split;omega;rfl)],hn,rT]at this;exact this
  refine CR h ho (by omega) NR QV fun h0 W hW=>?_
  obtain⟨U6,iJ⟩:=gB h0;exact Fs (h.next hW) ho hm hk (by omega) hn (k0.upS hW (UP hW)) (k1.upS hW (UP hW)) hp (v0.upS hW (UP hW)) (v1.upS hW (UP hW)) ((sE hv k0 (by omega)).upS hW (UP hW)) ((sE hv k1 (by omega)).upS hW (UP hW)) U6
 |swp p q r=>
  obtain⟨hk,fM,hn,hp,hq,y,z,k0,k1,v0,v1⟩:=hs;show Calls _ _ _ _ fun en w'=>RetS B S w (mF p q σ) en w'
  unfold mF;have QV:zG w S σ x (rS (bN σ.cur.vars p) (bN σ.cur.vars q)):=by
   have:=h.ftNd gY x (by omega) (fun i=>if i=0 then bN σ.cur.vars p else bN σ.cur.vars q) fun i hi=>by
    rcases(show i=0∨i=1 by omega)with rfl|rfl
    ·exact⟨y,k0,h.ftEx gY v0⟩
    ·exact⟨z,k1,h.ftEx gY v1⟩
   rw[show rI σ.cur.vars x=0 by unfold rI gI;rw[if_pos (by split;omega;split;omega;split;omega;rfl)],hn,rT]at this;exact this
  refine CR h ho (by omega) NR QV fun h0 W hW=>?_
  obtain⟨U6,iJ⟩:=gB h0;exact Fp (h.next hW) ho hm hk hn (k0.upS hW (UP hW)) (k1.upS hW (UP hW)) hp hq (v0.upS hW (UP hW)) (v1.upS hW (UP hW)) ((sE hv k0 (by omega)).upS hW (UP hW)) ((sE hv k1 (by omega)).upS hW (UP hW)) U6 iJ
 |stk op s p r=>
  obtain⟨hk,fY,hz,hnm,hnb,hn,hp,y,k0,v0⟩:=hs;show Calls _ _ _ _ fun en w'=>RetS B S w (kZ op s p σ) en w'
  unfold kZ;have QV:zG w S σ x (rS (dT σ.cur.vars s 3) (bN σ.cur.vars p)):=by
   have:=h.ftNd gY x (by omega) (fun _=>bN σ.cur.vars p) fun i hi=>by obtain rfl:i=0:=(by omega);exact⟨y,k0,h.ftEx gY v0⟩
   rw[show rI σ.cur.vars x=dT σ.cur.vars s 3 by unfold rI gI;rw[hnm];rcases fY with e|e<;>rw[hk,e]<;>rfl,hn,nR]at this;exact this
  refine CR h ho (by omega) NR QV fun h0 W hW=>?_
  obtain⟨U6,iJ⟩:=gB h0;obtain⟨j,c,l,c2,l2,NZ,RA,Z7,hC⟩:=Fo (h.next hW) (fC hB (UP hW)) ho hm hk fY hn (k0.upS hW (UP hW)) hp (v0.upS hW (UP hW)) ((sE hv k0 (by omega)).upS hW (UP hW)) iJ (by rw[hnm];exact U6);refine hC.mono fun en w' hr=>?_
  have e:(fun(i:Nat)(_:Int)=>WN op σ c i l c2 l2)=(fun i _=>if op=44 then(if 1000<=σ.len s then .error 5 else .ok ((σ.setCell s ((σ.look s).getD []++ [σ.read p.nam i])).write p.nam i 0))else if σ.len s=0 then .error 13 else if σ.read p.nam i≠0 then .error 14 else .ok ((σ.write p.nam i (((σ.look s).getD []).getLastD 0)).setCell s ((σ.look s).getD []).dropLast)):=by
   funext i _;rw[hnm]at RA;unfold WN;rw[RA.len,NZ.read,RA.put,RA.look,Option.getD_some];have e1:({σ with cells:=σ.cells.set c2 (l2++ [l.getD i 0])}:PSt).write p.nam i 0={σ with cells:=(σ.cells.set c2 (l2++ [l.getD i 0])).set c (l.set i 0)}:=by
    unfold PSt.write;have:({σ with cells:=σ.cells.set c2 (l2++ [l.getD i 0])}:PSt).at_ p.nam=some c:=by
     show(bK p.nam σ.cur.vars).map _=_;rw[NZ.find];simp only[Option.map_some,eX];show some ((σ.cur.idx[j.2]?).getD 0)=_;rw[NZ.idx];rfl
    rw[this];simp only[eX,List.getElem?_set_ne Z7.symm,NZ.cell,Option.getD_some]
   have e2:(σ.write p.nam i (l2.getLastD 0)).setCell s l2.dropLast={σ with cells:=(σ.cells.set c (l.set i (l2.getLastD 0))).set c2 l2.dropLast}:=by
    rw[NZ.write];unfold PSt.setCell;have:({σ with cells:=σ.cells.set c (l.set i (l2.getLastD 0))}:PSt).at_ s=some c2:=by
     show(bK s σ.cur.vars).map _=_;rw[RA.find];simp only[Option.map_some,eX];show some ((σ.cur.idx[(i7 s σ.cur.vars).toNat]?).getD 0)=_;rw[RA.idx];rfl
    rw[this]
   rw[e1,e2]
  rw[<-e];exact hr
 |tap op p r=>
  obtain⟨hk,fY,fM,hn,hp,y,k0,v0⟩:=hs;show Calls _ _ _ _ fun en w'=>RetS B S w (lA op p σ) en w'
  unfold lA;have QV:zG w S σ x (bN σ.cur.vars p):=by
   have:=h.ftNd gY x (by omega) (fun _=>bN σ.cur.vars p) fun i hi=>by obtain rfl:i=0:=(by omega);exact⟨y,k0,h.ftEx gY v0⟩
   rw[show rI σ.cur.vars x=0 by unfold rI gI;rw[if_pos (by split;omega;split;omega;split;omega;rfl)],hn,nR]at this;exact this
  refine CR h ho (by omega) NR QV fun U6 W hW=>?_
  obtain⟨j,c,l,NZ,hC⟩:=Fq (h.next hW) (fC hB (UP hW)) ho hm hk fY hn (k0.upS hW (UP hW)) hp (v0.upS hW (UP hW)) ((sE hv k0 (by omega)).upS hW (UP hW)) U6;refine hC.mono fun en w' hr=>?_
  have e:(fun(i:Nat)(_:Int)=>iD op σ c i l)=(fun i _=>if op=46 then(if σ.inp= []then .error 17 else if σ.read p.nam i≠0 then .error 14 else .ok ({σ with inp:=σ.inp.tail}.write p.nam i (σ.inp.headD 0)))
   else if op=47 then(if 4096<=σ.inp.length then .error 5 else .ok ({σ with inp:=σ.read p.nam i::σ.inp}.write p.nam i 0))
   else if op=48 then(if 4096<=σ.out.length then .error 5 else .ok ({σ with out:=σ.out++ [σ.read p.nam i]}.write p.nam i 0))
   else(if σ.out= []then .error 17 else if σ.read p.nam i≠0 then .error 14 else .ok ({σ with out:=σ.out.dropLast}.write p.nam i (σ.out.getLastD 0)))):=by
   funext i _;have wr:∀(a b:List Int) v,({σ with inp:=a,out:=b}:PSt).write p.nam i v={σ with inp:=a,out:=b,cells:=σ.cells.set c (l.set i v)}:=fun a b v=>by
    have h1:=NZ.write i v;unfold PSt.write at h1⊢;have e0:({σ with inp:=a,out:=b}:PSt).at_ p.nam=σ.at_ p.nam:=rfl;rw[e0];cases ha:σ.at_ p.nam with
    |none=>rw[ha]at h1;simp only at h1⊢;rw[PSt.mk.injEq]at h1;simp[<-h1.1]
    |some c'=>rw[ha]at h1;simp only at h1⊢;rw[PSt.mk.injEq]at h1;rw[h1.1]
   unfold iD;rw[NZ.read,show({σ with inp:=σ.inp.tail}:PSt)={σ with inp:=σ.inp.tail,out:=σ.out}from rfl,show({σ with inp:=l.getD i 0::σ.inp}:PSt)={σ with inp:=l.getD i 0::σ.inp,out:=σ.out}from rfl,show({σ with out:=σ.out++ [l.getD i 0]}:PSt)={σ with inp:=σ.inp,out:=σ.out++ [l.getD i 0]}from rfl,show({σ with out:=σ.out.dropLast}:PSt)={σ with inp:=σ.inp,out:=σ.out.dropLast}from rfl,wr,wr,wr,wr]
  rw[<-e];exact hr
 |_=>exact hb.elim
theorem StAt.inv{B:Nat}{s:Sq}{x:Nd}(h:StAt w B (d+1) s x)(hb:s.basic):StAt w B (d+1) s.inv ⟨dH x.k,x.num,x.nm,x.A,x.n,x.cap⟩∧s.inv.basic:=by
 have K:∀{i:Nat}{y:Nd},Kid w B x i y->Kid w B ⟨dH x.k,x.num,x.nm,x.A,x.n,x.cap⟩ i y:=fun h=>h
 have iv:∀op:Int,(op=40∨op=41∨op=42∨op=56->dH op=40∨dH op=41∨dH op=42∨dH op=56)∧(op=44∨op=45->dH op=44∨dH op=45)∧(op=46∨op=47∨op=48∨op=49->dH op=46∨dH op=47∨dH op=48∨dH op=49):=fun op=>by
  refine⟨fun h=>?_,fun h=>?_,fun h=>?_⟩
  ·rcases h with rfl|rfl|rfl|rfl<;>simp[dH]
  ·rcases h with rfl|rfl<;>simp[dH]
  ·rcases h with rfl|rfl|rfl|rfl<;>simp[dH]
 cases s with
 |upd op p e r=>
  obtain⟨hk,fY,fM,hn,hp,y,z,k0,k1,v0,v1⟩:=h;exact⟨⟨by rw[hk],(iv op).1 fY,fM,hn,hp,y,z,K k0,K k1,v0,v1⟩,trivial⟩
 |swp p q r=>
  obtain⟨hk,fM,hn,hp,hq,y,z,k0,k1,v0,v1⟩:=h;exact⟨⟨by rw[hk];rfl,fM,hn,hp,hq,y,z,K k0,K k1,v0,v1⟩,trivial⟩
 |stk op s p r=>
  obtain⟨hk,fY,h0,hnm,hnb,hn,hp,y,k0,v0⟩:=h;exact⟨⟨by rw[hk],(iv op).2.1 fY,h0,hnm,hnb,hn,hp,y,K k0,v0⟩,trivial⟩
 |tap op p r=>
  obtain⟨hk,fY,fM,hn,hp,y,k0,v0⟩:=h;exact⟨⟨by rw[hk],(iv op).2.2 fY,fM,hn,hp,y,K k0,v0⟩,trivial⟩
 |_=>exact hb.elim
theorem BG(k:Int)(h:0<=k∧k<=255):0<=dH k∧dH k<=255:=by
 unfold dH
 repeat' split
 all_goals omega
theorem Dy(h:SOn w B S σ)(hB:B<=w.heap.size)(ho:σ.Ok kd m)(hm:m<=10000){s:Sq}{x:Nd}(hs:StAt w w.heap.size (d+1) s x)(hb:s.basic)(hv:KV w w.heap.size (d+1) x):
  Calls Tryz.prog 108 #[.pointer (some ⟨S.st,0,none⟩),.agg #[.int .u8 x.k,.int .i64 x.num,.string x.nm,.slice x.A x.n x.cap]] w fun en w'=>RetS B S w (CY s.inv σ) en w':=by
 obtain⟨hs',gX⟩:=StAt.inv hs hb;have OH:KV w w.heap.size (d+1) ⟨dH x.k,x.num,x.nm,x.A,x.n,x.cap⟩:=by obtain⟨h1,h2,h3,h4,h5,h6⟩:=hv;exact⟨BG _ h1,h2,h3,h4,h5,h6⟩
 have SU:∀{W:World}(hW:Below w.heap.size w W)(d:Nat)(s:Sq)(y:Nd),StAt w w.heap.size d s y->StAt W W.heap.size d s y:=fun hW d s y=>StAt.upS hW hW.size d s y
 obtain⟨r0,hr0⟩:∃r0,BU (CY s.inv σ)=r0:=⟨_,rfl⟩;obtain⟨q,hq⟩:∃q,CY s.inv σ=q:=⟨_,rfl⟩;have Tl:Hid (∀W,Below w.heap.size w W->Calls Tryz.prog 109 #[.pointer (some ⟨S.st,0,none⟩),.agg #[.int .u8 (dH x.k),.int .i64 x.num,.string x.nm,.slice x.A x.n x.cap]] W fun en w'=>en=.returned (.int .i64 r0)∧RetS B S w q en w'):=aA fun W hW=>(Nv (x:=⟨dH x.k,x.num,x.nm,x.A,x.n,x.cap⟩) (h.next hW) (fC hB hW.size) ho hm (SU hW _ _ _ hs') gX (OH.upS hW hW.size)).mono fun e w' hr=>⟨by rw[<-hr0];exact hr.ret.1,by rw[<-hq];exact hr.pre hW⟩
 have G7:=aA (fun W=>FL x.k W);rw[hq];generalize dH x.k=ik at *;clear h ho hs hb hs' gX hv OH SU hr0 hq;obtain⟨k,num,nm,A,n,cap⟩:=x;dsimp only at *;go_enter Tryz.func108,Tryz.ntmps108;go_upto_region 1 with fail;refine aB ?_;intro w1 aF;have aG:Below w.heap.size w w1:=(by rw[aF];go_grown);have K1:Blk w1 w.heap.size 26 #[.int .u8 k,.int .i64 num,.string nm,.slice A n cap]:=(by rw[aF];exact aQ);have a9:=aA K1;have aO:=aA aG;clear aF aG;obtain⟨aL,aJ,aK⟩:=K1.open_;clear K1;go_wp2_with fail;refine(G7.out w1).mono ?_;rintro en w2 ⟨rfl,rfl⟩;go_upto_region 2 with fail;refine aB ?_;intro w2 eD;have hb2:Below w.heap.size w w2:=by rw[eD];exact aO.out.setCell (aH _) _
 have K2:Blk w2 w.heap.size 26 #[.int .u8 ik,.int .i64 num,.string nm,.slice A n cap]:=by rw[eD];simpa using a9.out.set_ 0 (.int .u8 ik)
 have aP:=aA hb2;clear aJ aL aK eD hb2;obtain⟨aL,aJ,aK⟩:=K2.open_;clear K2;go_wp2_with fail;refine(Tl.out w2 aP.out).mono ?_;rintro en w3 ⟨rfl,hr⟩;have HR:=aA hr;clear hr aJ aL aK;go_wp2_with fail;go_ret;exact HR.out
end
end Go.Proofs.YtakfdnnlhjhcfaaGreatDoor
