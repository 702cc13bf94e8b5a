/- Part of the proof. -/
import Derived.Great.BuildSlice
import Derived.Test.YtakfdnnlhjhcfaaGreatDoorA28
set_option linter.unusedVariables false
set_option linter.unusedSimpArgs false
set_option maxRecDepth 100000
set_option maxHeartbeats 4000000
namespace Go.Proofs.YtakfdnnlhjhcfaaGreatDoor
open Go.RowKit Bk
theorem S6{w:World}{g:Nat}{t:TypeId}{u:Value}(h:Blk w g t #[u]):Sl w (fun k=>k<w.heap.size) 1 (.slice (some ⟨g,0,none⟩) 1 1) 1 [u]:=
 ⟨_,1,rfl,aH _,(fun e=>by cases e),rfl,fun _=>⟨g,0,rfl,h.lt,fun j v hv=>by
  match j,hv with
  |0,hv=>simp at hv;subst hv;exact h.cell 0⟩⟩
theorem Fr.setRowE'(w:World)(g:Nat)(cs:Array Value):Fr (· =g) w (w.setRow g cs):=⟨rfl,rfl,rfl,by simp,fun k _ hk=>setRow_other w g k cs hk⟩
theorem Flt.no{w:World}{bf base kk n:Nat}{q:Value}(h:Flt w bf base q n)(h1:kk≠bf)(h2:kk<base∨w.heap.size<=kk):¬(kk=bf∨q.ownBlock=some kk):=fun ho=>by
 obtain⟨xs,h3,_⟩:=h.own;rcases ho with e|e
 ·exact h1 e
 ·have:=bH h3 e;omega
theorem EE{w:World}{B:Nat}{A:Option Addr}{vs:List Vr}(h:VsAt w B A vs)(n:Nat):VsAt w B A (vs.take n):=fun i v hi=>h i v (by rw[List.getElem?_take]at hi;split at hi;exact hi;cases hi)
theorem Ae{w w':World}{B bf base n:Nat}{q:Value}{A:Option Addr}{nv cv:Nat}{vs:List Vr}(h:VsAt w B A vs)(hn:vs.length=nv)(hc:nv<=cv)(hA:A=none->cv=0)(hb:Below B w w')(bG:B<=w'.heap.size)(hf:Flt w' bf base q n)(h1:B<=bf)(h2:B<=base):Sl w' (Dn bf q w') 3 (.slice A nv cv) nv (aU vs):=
 (Td (h.next hb) hn hc hA).keep (fun _ _ _=>rfl) (fun k hk=>⟨dX hk bG,hf.no (by omega) (.inl (by omega))⟩)
theorem LT{w:World}{B d:Nat}(bG:B<=w.heap.size)(V:Option Addr)(nv cv:Nat)(vs:List Vr)(hv:VsAt w B V vs)(hnv:vs.length=nv)(d8:nv<=17592186043904)(gY:nv<=cv)(rF:V=none->cv=0)(Q:Option Addr)(nq cq:Nat)(ps:List Pc)(hq:PrsAt w B d Q ps)(hnq:ps.length=nq)(hnq2:nq<=17592186043904)(mI:∀p∈ps,p.V=none->p.cv=0)(m:Nd)(hm:KV w B d m)(fZ:validB w B d vs ps m=true)(w':World)(hb:Below B w w'):
  Calls Tryz.prog 17 #[.agg #[.slice V nv cv,.slice Q nq cq,.int .u8 m.k,.int .i64 m.num,.string m.nm,.slice m.A m.n m.cap]] w' fun en w''=>(∃A c,en=.returned (.slice A (FR w B d vs ps m) c))∧Below w'.heap.size w' w'':=by
 have HB:=aA hb;have HV:=aA hv;have oG:=aA hnv;have Xw:=aA hnq;have HQ:=aA hq;have JY:Hid (∀W,Below B w W->Calls Tryz.prog 16 #[.agg #[.slice V nv cv,.slice Q nq cq,.int .u8 m.k,.int .i64 m.num,.string m.nm,.slice m.A m.n m.cap]] W fun en w''=>en=.returned (.bool true)∧Below W.heap.size W w''):=aA fun W hW=>(kL bG V nv cv vs hv hnv d8 Q nq cq ps hq hnq hnq2 m hm W hW).mono fun en w'' h=>⟨by rw[h.1,fZ],h.2⟩
 have bC:B<=w'.heap.size:=by have:=hb.size;omega
 have s8:Hid (∀j name,j<=nv->∀W,Below B w W->Calls Tryz.prog 31 #[.slice V j cv,.string name] W fun en w''=>en=.returned (.int .i64 (Z0 (vs.take j) name))∧Below W.heap.size W w''):=aA fun j name hj W hW=>z7 bG V j cv (vs.take j) (EE hv j) (by rw[List.length_take];omega) (by omega) name W hW
 have Io:Hid (∀(i:Nat)(p:Pc),ps[i]?=some p->∀j name,j<=p.nv->∀W,Below B w W->Calls Tryz.prog 31 #[.slice p.V j p.cv,.string name] W fun en w''=>en=.returned (.int .i64 (Z0 (p.vs.take j) name))∧Below W.heap.size W w''):=aA fun i p hp j name hj W hW=>by
  obtain⟨_,h1,h2,_,h4,_⟩:=hq i p hp;exact z7 bG p.V j p.cv (p.vs.take j) (EE h1 j) (by rw[List.length_take];omega) (by omega) name W hW
 have HPI:Hid (∀nm W,Below B w W->Calls Tryz.prog 32 #[.agg #[.slice V nv cv,.slice Q nq cq,.int .u8 m.k,.int .i64 m.num,.string m.nm,.slice m.A m.n m.cap],.string nm] W fun e w''=>e=.returned (.int .i64 (fB nm ps))∧Below W.heap.size W w''):=aA fun nm W hW=>zZ bG V nv cv Q nq cq ps hq hnq hnq2 m nm W hW
 have ZR:=lB fZ;have QY:=TZ fZ;have HVM:Hid (FB w B 35 28 #[.slice V nv cv,.slice Q nq cq,.int .u8 m.k,.int .i64 m.num,.string m.nm,.slice m.A m.n m.cap] (.agg #[.slice V nv cv,.slice Q nq cq,.int .u8 m.k,.int .i64 m.num,.string m.nm,.slice m.A m.n m.cap]) m 80 (fun vs=>dL w B ps d m vs)):=aA (by
  obtain⟨⟨c,h1⟩,_⟩:=iZ ZR.2.2.2.2;exact vE bG V nv cv Q nq cq ps hq hnq hnq2 m (fun _ _=>rfl) (Fi m) d m 80 2000 c hm h1 (by omega))
 have HVP:Hid (∀(i:Nat)(p:Pc),ps[i]?=some p->∀j:Int,FB w B 34 3 #[.int .i64 j] (.agg #[.slice V nv cv,.slice Q nq cq,.int .u8 m.k,.int .i64 m.num,.string m.nm,.slice m.A m.n m.cap]) p.body 80 (fun vs=>dL w B ps d p.body vs)):=aA fun i p hp j=>by
  obtain⟨⟨c,h1⟩,_⟩:=iZ (jG (ZR.2.2.2.1 p (List.mem_of_getElem? hp))).2.2.2;exact vE bG V nv cv Q nq cq ps hq hnq hnq2 m (fun _ _=>rfl) (Fh j) d p.body 80 2000 c (hq i p hp).2.2.2.2.2 h1 (by omega)
 have Tw:Hid (∀(i:Nat)(p:Pc),ps[i]?=some p->p.V=none->p.cv=0):=aA fun i p hp=>mI p (List.mem_of_getElem? hp)
 have YE:Hid (∀(i:Nat)(p:Pc),ps[i]?=some p->p.nv<=8):=aA fun i p hp=>(jG (ZR.2.2.2.1 p (List.mem_of_getElem? hp))).2.1
 have Bg:Hid (∀(j:Nat)(v:Vr),vs[j]?=some v->one (Z0 (vs.take j) v.nm)=oH vs j):=aA fun j v h=>by unfold oH;rw[h]
 have Bj:Hid (∀(i:Nat)(p:Pc),ps[i]?=some p->oK w B d ps i=one (if fB p.nm ps<(i:Int)then 22 else 0)+aY (oH p.vs) p.nv+dL w B ps d p.body p.vs):=aA fun i p h=>by unfold oK;rw[h]
 have aAQ:nv<=32:=by have:=ZR.1;omega
 have aAP:nq<=64:=by have:=ZR.2.1;omega
 unfold FR;obtain⟨l1,l2,l3,l4,l5⟩:=QY;replace l5:=l5 vs;rw[hnv]at l1⊢;rw[hnq]at l2 l3⊢;obtain⟨cA,hcA⟩:∃f,oH vs=f:=⟨_,rfl⟩;obtain⟨cP,hcP⟩:∃f,oK w B d ps=f:=⟨_,rfl⟩;obtain⟨cM,hcM⟩:∃f,dL w B ps d m vs=f:=⟨_,rfl⟩;rw[hcA]at l1 Bg⊢;rw[hcP]at l2 l3 l4 Bj⊢;rw[hcM]at l5⊢;obtain⟨cT,hcT⟩:∃c,aY cA nv=c:=⟨_,rfl⟩;obtain⟨cU,hcU⟩:∃c,aY cP nq=c:=⟨_,rfl⟩;rw[hcT]at l1⊢;rw[hcU]at l2⊢;have Kq:=aA hcT;have CE:=aA hcU;have Ko:=aA hcM;have HL3:=aA l3;have HL4:=aA l4;have HVN:=aA rF;clear hb hv hnv hq hnq fZ ZR hcA hcP hcM hcT hcU l3 l4 mI hm rF;obtain⟨mk,mnum,mnm,mA,mn,mcap⟩:=m;dsimp only at *;go_enter Tryz.func17,Tryz.ntmps17;go_upto_region 1 with fail;refine aB ?_;intro w1 aF;have aG:Below w'.heap.size w' w1:=by rw[aF];go_grown
 have K1:Blk w1 w'.heap.size 28 #[.slice V nv cv,.slice Q nq cq,.int .u8 mk,.int .i64 mnum,.string mnm,.slice mA mn mcap]:=by rw[aF];exact aQ
 have a9:=aA K1;have aO:=aA aG;clear aF aG;obtain⟨aL,aJ,aK⟩:=K1.open_;clear K1;go_wp2_with fail;refine(JY.out w1 (HB.out.trans (aO.out.mono bC))).mono ?_;rintro en w2 ⟨rfl,hb2⟩;have aP:=aA (aO.out.next hb2);have bI:=aA (a9.out.next hb2);clear aJ aL aK hb2 a9 aO JY;have kn:Blk ((w2.alloc (.cells #[.slice none 0 0] 49)).alloc (.cells #[.nilFunc] 70)) (w2.heap.size+1) 70 #[.nilFunc]:=Blk.new' (by simp) _ _;go_upto_region 5 with(refine wpList_store_one rfl 70 (.tmp 4) (.tmp 14) rfl (w2.heap.size+1) rfl rfl 70 .nilFunc kn (by kernel_rfl) ?_;(try simp only[Act.put,PU]));refine aB ?_;intro w3 dP;have kE:Fr (fun k=>k=w2.heap.size+1) ((w2.alloc (.cells #[.slice none 0 0] 49)).alloc (.cells #[.nilFunc] 70)) w3:=by rw[dP];exact Fr.setRowE' _ _ _
 have aT:Below w2.heap.size w2 w3:=Below.trans (((aM _ _).alloc (aH _) _).alloc (by simp) _) (kE.below (by simp;omega) (fun k hk=>by omega));have Zu:Blk w3 w2.heap.size 49 #[.slice none 0 0]:=kE.blk ((Blk.new w2 _ _).next ((aM _ _).alloc (aH _) _)) (by omega);have Ug:Blk w3 (w2.heap.size+1) 70 #[.func (.func 29) #[] #[.pointer (some ⟨w2.heap.size,0,none⟩)]]:=by rw[dP];exact setRow_heap _ _ _ _ _ _ kn
 have WC:w2.heap.size+1<w3.heap.size:=Ug.lt;obtain⟨bf,hbf⟩:∃bf,w2.heap.size=bf:=⟨_,rfl⟩;have bD:=aA (aP.out.next aT);have dD:=aA (bI.out.next aT);have OL:w'.heap.size<w2.heap.size:=bI.out.lt;rw[hbf]at Zu Ug WC OL⊢;obtain⟨base,hbase⟩:∃base,w3.heap.size=base:=⟨_,rfl⟩;have Bp:Hid (Flt w3 bf base (.slice none 0 0) 0):=aA ⟨Zu,[],World.ownsRow_nil _ _ _ _,fun u hu=>by cases hu⟩;have wY:Hid (RepX w3 bf (bf+1) w'.heap.size base (.slice none 0 0) 28 #[.slice V nv cv,.slice Q nq cq,.int .u8 mk,.int .i64 mnum,.string mnm,.slice mA mn mcap]):=aA ⟨Ug,dD.out,by omega,⟨by omega,Bp.out.no (by omega) (.inl (by omega))⟩,⟨by omega,Bp.out.no (by omega) (.inl (by omega))⟩⟩;have V5:Hid (bf<base∧base<=w3.heap.size):=aA (by omega);clear dP aT Zu Ug bI aP kn kE;obtain⟨aL,aJ,aK⟩:=dD.out.open_;go_upto_region 6 with fail;clear aJ aL aK
 go_loopw [18] (fun v18 wr=>∃(j:Nat)(qc:Value),j<=nv∧v18=.int .i64 j∧Flt wr bf base qc (aY cA j)∧Emt bf w3 wr (.slice none 0 0) qc) (fun v _=>nv-(intOf v).toNat)
 case atStart=>exact⟨0,_,fI _,rfl,Bp.out,Emt.refl _ _ _⟩
 case round=>
  obtain⟨j,qc,hj,rfl,hfc,pF⟩:=hrel;have t9:=aA hfc;have U0:=aA pF;have xS:=aA (wY.out.emt pF);have pP:Hid (Below B w wr):=aA ((HB.out.trans (bD.out.mono bC)).trans (pF.1.below (by omega) (fun kk hk=>by rcases hk with e|e;omega;cases e)));have wT:=pF.1.size;have hsj:aY cA j<=cT:=by rw[<-Kq.out];exact iC hj
  clear hfc pF;by_cases e9:j<nv
  ·obtain⟨v,hvj⟩:∃v,vs[j]?=some v:=⟨_,dR (by have:=oG.out;omega)⟩
   obtain⟨g,o,eY,cR,c0,c1,c2⟩:=(HV.out.next pP.out) j v hvj;subst eY;have T8:=aA (Bg.out j v hvj);obtain⟨nm,k,len⟩:=v;dsimp only at c0 c1 c2 T8;have j0:(0:Int)<=(j:Int):=by omega
   have j1:(j:Int)<(nv:Int):=by omega
   have j2:j<=cv:=by omega
   have V9:=aA (s8.out j nm (by omega));obtain⟨e1,he1⟩:∃e,Z0 (vs.take j) nm=e:=⟨_,rfl⟩;rw[he1]at V9 T8;have T9:=T8;clear hvj he1;go_upto_region 8 with fail;refine aB ?_;intro w5 jS;have cW:Below wr.heap.size wr w5:=by rw[jS];go_grown
   have KY:Blk w5 wr.heap.size 72 #[.string nm,.int .u8 k,.int .i64 len]:=by rw[jS];exact aQ
   have gE:=aA KY;have gP:=aA cW;have gL:=aA (pP.out.trans (cW.mono (by omega)));have nK:=aA (xS.out.next cW);have rK:=aA (t9.out.next cW);have Xg:=aA nK.out.f;have zI:=aA nK.out.p;have ZT:w3.heap.size<=w5.heap.size:=by have:=cW.size;omega
   have nH:Hid (∀kk,kk=w'.heap.size∨kk=bf+1∨kk=wr.heap.size->¬(kk=bf∨qc.ownBlock=some kk)):=aA fun kk hk=>t9.out.no (by omega) (by omega)
   clear jS c0 c1 c2 cW KY xS pP t9 s8 T8;refine wp_region_held_drew (S:=fun W=>Fr (fun kk=>kk=bf∨qc.ownBlock=some kk) w5 W) (by kernel_rfl) ((Fr.refl _ _).drew) (fun hH=>?_);refine aE ?_;intro wa bP;have hX:Below w5.heap.size w5 wa:=by rw[bP];exact(aM _ _).drew
   replace hH:Fr (fun kk=>kk=bf∨qc.ownBlock=some kk) w5 wa:=Fr.of hX;clear bP;refine cH 0 (v:=?_) rfl ?hy hH ?_
   case hy=>(intro bW aN;have t:=(aN.blk Xg.out (nH.out _ (.inr (.inl rfl)))).cell;clear aN;go_simp;try with_reducible rfl)
   (try simp only[PU,aD])
   refine aW 1 (v:=?_) rfl hH ?_;(try simp only[PU,aD])
   refine aW 3 (v:=?_) rfl hH ?_;(try simp only[PU,aD])
   refine cH 4 (v:=?_) rfl ?hy hH ?_
   case hy=>(intro bW aN;have t:=(aN.blk gE.out (nH.out _ (.inr (.inr rfl)))).cell;clear aN;go_simp;try with_reducible rfl)
   (try simp only[PU,aD])
   refine aW 5 (v:=?_) rfl hH ?_;(try simp only[PU,aD])
   refine cH 6 (v:=?_) rfl ?hy hH ?_
   case hy=>(intro bW aN;have t:=(aN.blk zI.out (nH.out _ (.inl rfl))).cell;clear aN;go_simp;try with_reducible rfl)
   (try simp only[PU,aD])
   refine aW 7 (v:=?_) rfl hH ?_;(try simp only[PU,aD])
   refine aW 8 (v:=?_) rfl hH ?_;(try simp only[PU,aD])
   refine aW 9 (v:=?_) rfl hH ?_;(try simp only[PU,aD])
   refine cH 10 (v:=?_) rfl ?hy hH ?_
   case hy=>(intro bW aN;have t:=(aN.blk gE.out (nH.out _ (.inr (.inr rfl)))).cell;clear aN;go_simp;try with_reducible rfl)
   (try simp only[PU,aD])
   refine wpAnyH_ready (rs:= [2,11]) (by kernel_rfl) (by simp) ?_;refine AllReadyH.cons rfl (fun K hK=>?_) (AllReadyH.cons rfl (fun K hK=>?_) (AllReadyH.nil))
   ·go_simp
    replace hH:Fr (fun kk=>kk=bf∨qc.ownBlock=some kk) w5 _:=Fr.of (hX.alloc (by have:=hX.size;omega) (.cells #[.int .i64 (j:Int)] 3));refine hK.out _ _ hH (fun hH=>?_);clear hK;(try simp only[PU,aD])
    refine aE ?_;intro wb bS;have aR:Below wa.heap.size wa wb:=by rw[bS];exact(aM _ _).alloc (aH _) _
    have YA:=aA (show Blk wb wa.heap.size 3 #[.int .i64 (j:Int)] by rw[bS];exact Blk.new _ _ _);replace hX:=hX.next aR;replace hH:Fr (fun kk=>kk=bf∨qc.ownBlock=some kk) w5 wb:=Fr.of hX;clear bS aR;refine cE 11 (by kernel_rfl) rfl (fun K hK=>?_);go_simp;refine(V9.out _ (gL.out.trans (hX.mono (by omega)))).mono ?_;rintro en wc ⟨rfl,aR⟩;replace hX:=hX.next aR;replace YA:=aA (YA.out.next aR);clear aR;refine hK.out _ _ (Fr.of hX) (fun hH=>?_);clear hK;(try simp only[PU,aD])
    refine cE 12 (by kernel_rfl) rfl (fun K hK=>?_);go_simp;refine(kN (rK.out.next hX) V5.out.1 (fC V5.out.2 (fC ZT hX.size)) (by omega) (-1) e1 nm (l:= [(j:Int)]) (by simp) (S6 YA.out)).mono ?_;rintro en w8 ⟨rfl,lR⟩;obtain⟨q8,lQ,xD⟩:=RepP.e (rK.out.next hX) lR;refine hK.out _ _ ((Fr.of hX).trans xD.1) (fun hH=>?_);clear hK;(try simp only[PU,aD])
    refine wpAnyH_done (by kernel_rfl) ?_ _;have pR:=aA (show Flt w8 bf base q8 (aY cA (j+1)) by rw[show aY cA (j+1)=aY cA j+cA j from rfl,<-T9.out];exact lQ);have RR:=aA (Emt.pre (gP.out.next hX) xD);clear hX hH lQ xD lR;go_wp2_with fail;exact⟨⟨j+1,q8,by omega,by go_num,pR.out,U0.out.trans RR.out⟩,by simp[intOf];omega⟩
   ·go_simp
    refine(V9.out _ (gL.out.trans (hX.mono (by omega)))).mono ?_;rintro en wb ⟨rfl,aR⟩;replace hX:=hX.next aR;clear aR;refine hK.out _ _ (Fr.of hX) (fun hH=>?_);clear hK;(try simp only[PU,aD])
    refine cE 2 (by kernel_rfl) rfl (fun K hK=>?_);go_simp;replace hH:Fr (fun kk=>kk=bf∨qc.ownBlock=some kk) w5 _:=Fr.of (hX.alloc (by have:=hX.size;omega) (.cells #[.int .i64 (j:Int)] 3));refine hK.out _ _ hH (fun hH=>?_);clear hK;(try simp only[PU,aD])
    refine aE ?_;intro wc bS;have aR:Below wb.heap.size wb wc:=by rw[bS];exact(aM _ _).alloc (aH _) _
    have YA:=aA (show Blk wc wb.heap.size 3 #[.int .i64 (j:Int)] by rw[bS];exact Blk.new _ _ _);replace hX:=hX.next aR;replace hH:Fr (fun kk=>kk=bf∨qc.ownBlock=some kk) w5 wc:=Fr.of hX;clear bS aR;refine cE 12 (by kernel_rfl) rfl (fun K hK=>?_);go_simp;refine(kN (rK.out.next hX) V5.out.1 (fC V5.out.2 (fC ZT hX.size)) (by omega) (-1) e1 nm (l:= [(j:Int)]) (by simp) (S6 YA.out)).mono ?_;rintro en w8 ⟨rfl,lR⟩;obtain⟨q8,lQ,xD⟩:=RepP.e (rK.out.next hX) lR;refine hK.out _ _ ((Fr.of hX).trans xD.1) (fun hH=>?_);clear hK;(try simp only[PU,aD])
    refine wpAnyH_done (by kernel_rfl) ?_ _;have pR:=aA (show Flt w8 bf base q8 (aY cA (j+1)) by rw[show aY cA (j+1)=aY cA j+cA j from rfl,<-T9.out];exact lQ);have RR:=aA (Emt.pre (gP.out.next hX) xD);clear hX hH lQ xD lR;go_wp2_with fail;exact⟨⟨j+1,q8,by omega,by go_num,pR.out,U0.out.trans RR.out⟩,by simp[intOf];omega⟩
  ·obtain rfl:nv=j:=by omega
   obtain⟨aL,aJ,aK⟩:=xS.out.p.open_;go_upto_region 11 with fail;clear aJ aL aK s8 Bg;obtain⟨w7,hw7⟩:∃w7,wr=w7:=⟨_,rfl⟩;rw[Kq.out]at t9;rw[hw7]at t9 U0 xS pP wT⊢;have X1:=xS;have E6:=t9;have HE7:=U0;have V4:=pP;clear hw7 hsj xS t9 U0 pP;obtain⟨q7,hq7⟩:∃q,qc=q:=⟨_,rfl⟩;rw[hq7]at X1 E6 HE7;clear hq7
   go_loopw [40] (fun v40 wr=>∃(j:Nat)(qc:Value),j<=nq∧v40=.int .i64 j∧Flt wr bf base qc (cT+aY cP j)∧Emt bf w7 wr q7 qc) (fun v _=>nq-(intOf v).toNat)
   case atStart=>exact⟨0,q7,fI _,rfl,E6.out,Emt.refl _ _ _⟩
   case round=>
   obtain⟨wv,hwv⟩:∃x,x=wr:=⟨_,rfl⟩;subst hwv;obtain⟨j,qc,hj,rfl,hfc,pF⟩:=hrel;have t9:=aA hfc;have U0:=aA pF;have xS:=aA (X1.out.emt pF);have pP:Hid (Below B w wv):=aA (V4.out.trans (pF.1.below (by omega) (fun kk hk=>by rcases hk with e|e;omega;have:=bH E6.out.own.choose_spec.1 e;omega)));have aBk:=pF.1.size;have hsj:aY cP j<=cU:=by rw[<-CE.out];exact iC hj
   clear hfc pF;by_cases e9:j<nq
   ·obtain⟨p,hpj⟩:∃p,ps[j]?=some p:=⟨_,dR (by have:=Xw.out;omega)⟩
    obtain⟨⟨g,o,eY,cR,c0,c1,c2,c3,c4,c5⟩,JB,Rj,hpc,_,_⟩:=HQ.out j p hpj;subst eY;have hX:=pP.out;have d0:=(hX.cell (p:=⟨g,o+j*6,none⟩) cR).trans c0;have d1:=(hX.cell (p:=⟨g,o+j*6+1,none⟩) cR).trans c1;have d2:=(hX.cell (p:=⟨g,o+j*6+2,none⟩) cR).trans c2;have d3:=(hX.cell (p:=⟨g,o+j*6+3,none⟩) cR).trans c3;have d4:=(hX.cell (p:=⟨g,o+j*6+4,none⟩) cR).trans c4;have d5:=(hX.cell (p:=⟨g,o+j*6+5,none⟩) cR).trans c5;have Ml:=aA JB;have Cs:=aA Rj;have Yg:=aA (Io.out j p hpj);have Zo:=aA (HVP.out j p hpj (j:Int));have Yj:=aA (Tw.out j p hpj);have hp8:=YE.out j p hpj;have CI:=aA (HPI.out p.nm);have T8:=aA (Bj.out j p hpj);have IZ:=HL3.out j e9;have Qs:=HL4.out j;obtain⟨pn,pV,pnv,pcv,pvs,⟨bk,bnum,bnm,bA,bn,bcap⟩⟩:=p;dsimp only at *;obtain⟨ri,hri⟩:∃r,fB pn ps=r:=⟨_,rfl⟩;rw[hri]at T8 CI;obtain⟨o1,ho1⟩:∃o,one (if ri<(j:Int)then 22 else 0)=o:=⟨_,rfl⟩;have hol:o1<=1:=by rw[<-ho1];exact sG _
    rw[ho1]at T8;have zJ:=aA ho1;obtain⟨n6,hn6⟩:∃n,cT+aY cP j+o1=n:=⟨_,rfl⟩;have hnl:n6<=300000:=by omega
    have IQ:=aA hn6;have Bm:∀(i:Nat)(v:Vr),pvs[i]?=some v->one (Z0 (pvs.take i) v.nm)=oH pvs i:=fun i v h=>by unfold oH;rw[h]
    obtain⟨cv',gY⟩:∃f,oH pvs=f:=⟨_,rfl⟩;obtain⟨cb,hcb⟩:∃f,dL w B ps d ⟨bk,bnum,bnm,bA,bn,bcap⟩ pvs=f:=⟨_,rfl⟩;rw[gY]at Bm T8;rw[hcb]at T8;have HDV:=aA Bm;have oL:=aA hcb;obtain⟨cs,hcs⟩:∃c,aY cv' pnv=c:=⟨_,rfl⟩;rw[hcs]at T8;have hcj:=T8.out;have aAZ:n6+cs+cb<=300000:=by omega
    have HCS:=aA hcs;have Zb:Hid (cT+aY cP (j+1)=n6+cs+cb):=aA (by rw[show aY cP (j+1)=aY cP j+cP j from rfl,hcj];omega);clear ho1 hn6 Bm gY hcb hcs hcj;have j0:(0:Int)<=(j:Int):=by omega
    have j1:(j:Int)<(nq:Int):=by omega
    clear c0 c1 c2 c3 c4 c5 hpj JB Rj hX hri Io HVP Tw YE HPI Bj HL3 HL4 HQ;go_upto_region 13 with fail;refine aB ?_;intro w5 jS;have cW:Below wv.heap.size wv w5:=by rw[jS];go_grown
    have KI:Blk w5 wv.heap.size 3 #[.int .i64 (j:Int)]:=by rw[jS];exact aQ
    have KP:Blk w5 (wv.heap.size+1) 64 #[.string pn,.slice pV pnv pcv,.int .u8 bk,.int .i64 bnum,.string bnm,.slice bA bn bcap]:=by rw[jS];exact Blk.new' (by simp) _ _
    have Vs:=aA KI;have SH:=aA KP;have gP:=aA cW;have gL:=aA (pP.out.trans (cW.mono (by omega)));have nK:=aA (xS.out.next cW);have rK:=aA (t9.out.next cW);have zI:=aA nK.out.p;have ZT:w3.heap.size<=w5.heap.size:=by have:=cW.size;omega
    have aBi:wv.heap.size+1<w5.heap.size:=KP.lt;have aA1:w3.heap.size<=wv.heap.size:=by omega
    have C6:∀kk,kk=wv.heap.size∨kk=wv.heap.size+1->¬(kk=bf∨qc.ownBlock=some kk):=fun kk hk=>t9.out.no (by omega) (.inr (by omega))
    have SM:Hid (RepX w5 bf (bf+1) wv.heap.size base qc 3 #[.int .i64 (j:Int)]):=aA ⟨nK.out.f,KI,nK.out.h,nK.out.n4,⟨by omega,C6 _ (.inl rfl)⟩⟩;have RQ:Hid (Dn bf qc w5 (wv.heap.size+1)):=aA ⟨by omega,C6 _ (.inr rfl)⟩;clear jS d0 d1 d2 d3 d4 d5 cW KI KP xS pP t9 C6;refine wp_region_held_drew (S:=fun W=>Below w5.heap.size w5 W) (by kernel_rfl) ((aM _ _).drew) (fun hH=>?_);refine aE ?_;intro wa bP;have hX:Below w5.heap.size w5 wa:=by rw[bP];exact(aM _ _).drew
    replace hH:Below w5.heap.size w5 wa:=hX;clear bP;refine cH 0 (v:=?_) rfl ?hy hH ?_
    case hy=>(intro bW aN;have t:=(zI.out.next aN).cell;clear aN;go_simp;try with_reducible rfl)
    (try simp only[PU,aD])
    refine aW 1 (v:=?_) rfl hH ?_;(try simp only[PU,aD])
    refine cH 2 (v:=?_) rfl ?hy hH ?_
    case hy=>(intro bW aN;have t:=(SH.out.next aN).cell;clear aN;go_simp;try with_reducible rfl)
    (try simp only[PU,aD])
    refine cH 4 (v:=?_) rfl ?hy hH ?_
    case hy=>(intro bW aN;have t:=(Vs.out.next aN).cell;clear aN;go_simp;try with_reducible rfl)
    (try simp only[PU,aD])
    refine cE 3 (by kernel_rfl) rfl (fun K hK=>?_);go_simp;refine(CI.out _ (gL.out.trans (hX.mono (by omega)))).mono ?_;rintro en wb ⟨rfl,aR⟩;replace hX:=hX.next aR;clear aR;refine hK.out _ _ hX (fun hH=>?_);clear hK;(try simp only[PU,aD])
    refine aW 5 (v:=?_) rfl hH ?_;(try simp only[PU,aD])
    refine wpAnyH_done (by kernel_rfl) ?_ _;have kD:=aA hX;clear hX hH;generalize wb=w6a at *;have EZ:Hid (∀b,decide (ri<(j:Int))=b->o1=if b then 1 else 0):=aA fun b hb=>by rw[<-zJ.out];cases b<;>simp at hb<;>simp[hb,one]
    generalize DO:decide (ri<(j:Int))=tb;have Ub:=aA (EZ.out tb DO);clear DO EZ;cases tb;rotate_left
    focus
     obtain⟨z_f,Ui,IG⟩:=(SM.out.next kD.out).f.open_;obtain⟨z_i,T_i,F_i⟩:=(SM.out.next kD.out).p.open_;obtain⟨G3,F8,E4⟩:=(SH.out.next kD.out).open_;go_wp2_with fail;clear z_f Ui IG z_i T_i F_i G3 F8 E4;refine(kN (rK.out.next kD.out) V5.out.1 (fC V5.out.2 (fC ZT kD.out.size)) (by omega) (j:Int) 22 pn (l:= []) (by simp) Sl.nil).mono ?_;rintro en w6 ⟨rfl,lR⟩;have Rm:=RepP.e (rK.out.next kD.out) lR;obtain⟨q6,wS,he6⟩:=Rm;have pQ:Hid (Flt w6 bf base q6 n6):=aA (by rw[<-IQ.out,Ub.out];exact wS);have EJ:Hid (Emt bf w5 w6 qc q6):=aA (Emt.pre kD.out he6);clear Ub kD lR wS he6;have Mq:=aA (SM.out.emt EJ.out);have YH:=aA (nK.out.emt EJ.out);have Bl:=aA (RQ.out.kb EJ.out);have SI:=aA (EJ.out.1.blk SH.out RQ.out.2);obtain⟨G3,F8,E4⟩:=SI.out.open_;go_upto_region 16 with fail
    rotate_left
    focus
     have Ld:Hid (Flt w6a bf base qc n6):=aA (by rw[<-IQ.out,Ub.out];exact rK.out.next kD.out);have Kw:Hid (Emt bf w5 w6a qc qc):=aA (Emt.pre kD.out (Emt.refl _ _ _));clear Ub kD;obtain⟨q6,hq6⟩:∃q,qc=q:=⟨_,rfl⟩;have pQ:Hid (Flt w6a bf base q6 n6):=by rw[<-hq6];exact Ld
     have EJ:Hid (Emt bf w5 w6a qc q6):=by rw[<-hq6];exact Kw
     clear Ld Kw hq6;obtain⟨w6,hw6⟩:∃x,w6a=x:=⟨_,rfl⟩;rw[hw6]at pQ EJ⊢;clear hw6;have Mq:=aA (SM.out.emt EJ.out);have YH:=aA (nK.out.emt EJ.out);have Bl:=aA (RQ.out.kb EJ.out);have SI:=aA (EJ.out.1.blk SH.out RQ.out.2);obtain⟨G3,F8,E4⟩:=SI.out.open_;go_upto_region 16 with fail
    all_goals
     clear G3 F8 E4;have mG:Hid (Below B w w6):=aA (gL.out.trans (EJ.out.1.below (by omega) (fun kk hk=>by rcases hk with e|e;omega;have:=bH rK.out.own.choose_spec.1 e;omega)));have Vi:w5.heap.size<=w6.heap.size:=EJ.out.1.size
     go_loopw [59] (fun v59 wq=>∃(i:Nat)(qi:Value),i<=pnv∧v59=.int .i64 i∧Flt wq bf base qi (n6+aY cv' i)∧Emt bf w6 wq q6 qi) (fun v _=>pnv-(intOf v).toNat)
     case atStart=>exact⟨0,q6,fI _,rfl,pQ.out,Emt.refl _ _ _⟩
     case round=>
     obtain⟨i,qi,hi,rfl,hfi,N6⟩:=hrel;have tF:=aA hfi;have HEI:=aA N6;have SN:=aA (Mq.out.emt N6);have xS:=aA (YH.out.emt N6);have Ku:=aA (Bl.out.kb N6);have Cq:=aA (N6.1.blk SI.out Bl.out.2);have pP:Hid (Below B w wr):=aA (mG.out.trans (N6.1.below (by omega) (fun kk hk=>by rcases hk with e|e;omega;have:=bH pQ.out.own.choose_spec.1 e;omega)));have wT:=N6.1.size;have AQ:aY cv' i<=cs:=by rw[<-HCS.out];exact iC hi
     clear hfi N6;by_cases xG:i<pnv
     ·obtain⟨v,hvi⟩:∃v,pvs[i]?=some v:=⟨_,dR (by have:=Cs.out;omega)⟩
      obtain⟨g2,o2,hA3,QW,c0,c1,c2⟩:=(Ml.out.next pP.out) i v hvi;have RM:=aA (HDV.out i v hvi);obtain⟨vn,vk,vl⟩:=v;dsimp only at c0 c1 c2 RM;have i0:(0:Int)<=(i:Int):=by omega
      have i1:(i:Int)<(pnv:Int):=by omega
      have i2:i<=pcv:=by omega
      have V9:=aA (Yg.out i vn (by omega));obtain⟨e1,he1⟩:∃e,Z0 (pvs.take i) vn=e:=⟨_,rfl⟩;rw[he1]at V9 RM;have T9:=RM;subst hA3;clear hvi he1;go_upto_region 18 with fail;refine aB ?_;intro w9 OI;have tA:Below wr.heap.size wr w9:=by rw[OI];go_grown
      have KY:Blk w9 wr.heap.size 72 #[.string vn,.int .u8 vk,.int .i64 vl]:=by rw[OI];exact aQ
      have gE:=aA KY;have X3:=aA tA;have EH:=aA (pP.out.trans (tA.mono (by omega)));have Lh:=aA (tF.out.next tA);have Mr:=aA (SN.out.next tA);have Xh:=aA Mr.out.f;have Vt:=aA Mr.out.p;have Ye:=aA (Cq.out.next tA);have hz9:w3.heap.size<=w9.heap.size:=by have:=tA.size;omega
      have nH:Hid (∀kk,kk=w'.heap.size∨kk=bf+1∨kk=wv.heap.size∨kk=wv.heap.size+1∨kk=wr.heap.size->¬(kk=bf∨qi.ownBlock=some kk)):=aA fun kk hk=>by
       rcases hk with h|h|h|h|h
       ·exact tF.out.no (by omega) (.inl (by omega))
       ·exact tF.out.no (by omega) (.inl (by omega))
       ·rw[h];exact SN.out.n1.2
       ·rw[h];exact Ku.out.2
       ·exact tF.out.no (by omega) (.inr (by omega))
      clear OI c0 c1 c2 tA KY SN xS Ku Cq pP tF RM;refine wp_region_held_drew (S:=fun W=>Fr (fun kk=>kk=bf∨qi.ownBlock=some kk) w9 W) (by kernel_rfl) ((Fr.refl _ _).drew) (fun hH=>?_);refine aE ?_;intro wa bP;have hX:Below w9.heap.size w9 wa:=by rw[bP];exact(aM _ _).drew
      replace hH:Fr (fun kk=>kk=bf∨qi.ownBlock=some kk) w9 wa:=Fr.of hX;clear bP;refine cH 0 (v:=?_) rfl ?hy hH ?_
      case hy=>(intro bW aN;have t:=(aN.blk Xh.out (nH.out _ (.inr (.inl rfl)))).cell;clear aN;go_simp;try with_reducible rfl)
      (try simp only[PU,aD])
      refine cH 1 (v:=?_) rfl ?hy hH ?_
      case hy=>(intro bW aN;have t:=(aN.blk Vt.out (nH.out _ (.inr (.inr (.inl rfl))))).cell;clear aN;go_simp;try with_reducible rfl)
      (try simp only[PU,aD])
      refine aW 2 (v:=?_) rfl hH ?_;(try simp only[PU,aD])
      refine cH 3 (v:=?_) rfl ?hy hH ?_
      case hy=>(intro bW aN;have t:=(aN.blk gE.out (nH.out _ (.inr (.inr (.inr (.inr rfl)))))).cell;clear aN;go_simp;try with_reducible rfl)
      (try simp only[PU,aD])
      refine aW 4 (v:=?_) rfl hH ?_;(try simp only[PU,aD])
      refine cH 5 (v:=?_) rfl ?hy hH ?_
      case hy=>(intro bW aN;have t:=(aN.blk Ye.out (nH.out _ (.inr (.inr (.inr (.inl rfl)))))).cell;clear aN;go_simp;try with_reducible rfl)
      (try simp only[PU,aD])
      refine aW 6 (v:=?_) rfl hH ?_;(try simp only[PU,aD])
      refine aW 7 (v:=?_) rfl hH ?_;(try simp only[PU,aD])
      refine aW 8 (v:=?_) rfl hH ?_;(try simp only[PU,aD])
      refine cH 9 (v:=?_) rfl ?hy hH ?_
      case hy=>(intro bW aN;have t:=(aN.blk gE.out (nH.out _ (.inr (.inr (.inr (.inr rfl)))))).cell;clear aN;go_simp;try with_reducible rfl)
      (try simp only[PU,aD])
      refine cE 10 (by kernel_rfl) rfl (fun K hK=>?_);go_simp;refine(V9.out _ (EH.out.trans (hX.mono (by omega)))).mono ?_;rintro en wb ⟨rfl,aR⟩;replace hX:=hX.next aR;clear aR;refine hK.out _ _ (Fr.of hX) (fun hH=>?_);clear hK;(try simp only[PU,aD])
      refine cE 11 (by kernel_rfl) rfl (fun K hK=>?_);go_simp;refine(kN (Lh.out.next hX) V5.out.1 (fC V5.out.2 (fC hz9 hX.size)) (by omega) (j:Int) e1 vn (l:= []) (by simp) Sl.nil).mono ?_;rintro en w10 ⟨rfl,lR⟩;obtain⟨q10,Qf,Gh⟩:=RepP.e (Lh.out.next hX) lR;refine hK.out _ _ ((Fr.of hX).trans Gh.1) (fun hH=>?_);clear hK;(try simp only[PU,aD])
      refine wpAnyH_done (by kernel_rfl) ?_ _;have Wh:=aA (show Flt w10 bf base q10 (n6+aY cv' (i+1)) by rw[show aY cv' (i+1)=aY cv' i+cv' i from rfl,<-T9.out,<-Nat.add_assoc];exact Qf);have We:=aA (Emt.pre (X3.out.next hX) Gh);clear hX hH Qf Gh lR;go_wp2_with fail;exact⟨⟨i+1,q10,by omega,by go_num,Wh.out,HEI.out.trans We.out⟩,by simp[intOf];omega⟩
     ·obtain rfl:pnv=i:=by omega
      obtain⟨aL,aJ,aK⟩:=xS.out.p.open_;obtain⟨G3,F8,E4⟩:=Cq.out.open_;go_wp2_with fail;clear aL aJ aK G3 F8 E4;refine(Zo.out wr bf (bf+1) wv.heap.size base qi (n6+aY cv' pnv) _ [] pV pnv pcv pvs pP.out (by omega) (by omega) SN.out tF.out (by dsimp only;rw[oL.out];omega) Sl.nil (by simp) (Ae Ml.out Cs.out hpc Yj.out pP.out (by omega) tF.out (by omega) (by omega)) Cs.out (by omega)).mono ?_;rintro en w8 ⟨rfl,q8,lQ,xD⟩;have pR:Hid (Flt w8 bf base q8 (cT+aY cP (j+1))):=aA (by rw[Zb.out,<-HCS.out,<-oL.out];exact lQ);have RR:=aA (U0.out.trans (Emt.pre gP.out (EJ.out.trans (HEI.out.trans xD))));clear lQ xD;go_wp2_with fail;exact⟨⟨j+1,q8,by omega,by go_num,pR.out,RR.out⟩,by simp[intOf];omega⟩
   ·obtain rfl:nq=j:=by omega
    obtain⟨aL,aJ,aK⟩:=xS.out.p.open_;go_wp2_with fail;clear aL aJ aK;refine(HVM.out wv bf (bf+1) w'.heap.size base qc (cT+aY cP nq) _ [] V nv cv vs pP.out (by omega) (by omega) xS.out t9.out (by dsimp only;rw[Ko.out];omega) Sl.nil (by simp) (Ae HV.out oG.out gY HVN.out pP.out (by omega) t9.out (by omega) (by omega)) oG.out (by omega)).mono ?_;rintro en w8 ⟨rfl,q8,lQ,xD⟩;have pR:Hid (Flt w8 bf base q8 (cT+cU+cM)):=aA (by rw[<-CE.out,<-Ko.out];exact lQ);have HBZ:Hid (Below w'.heap.size w' w8):=aA (bD.out.trans (((HE7.out.trans (U0.out.trans xD)).1).below (by omega) (fun kk hk=>by rcases hk with e|e;omega;cases e)));clear lQ xD;obtain⟨A8,c8,rfl⟩:=aI pR.out.own.choose_spec.1;obtain⟨z_f,Ui,IG⟩:=pR.out.blk.open_;go_wp2_with fail;go_ret;exact⟨⟨A8,c8,rfl⟩,HBZ.out⟩
theorem LS{w:World}{B d:Nat}(bG:B<=w.heap.size)(V:Option Addr)(nv cv:Nat)(vs:List Vr)(hv:VsAt w B V vs)(hnv:vs.length=nv)(d8:nv<=17592186043904)(gY:nv<=cv)(rF:V=none->cv=0)(Q:Option Addr)(nq cq:Nat)(ps:List Pc)(hq:PrsAt w B d Q ps)(hnq:ps.length=nq)(hnq2:nq<=17592186043904)(mI:∀p∈ps,p.V=none->p.cv=0)(m:Nd)(hm:KV w B d m)(fZ:validB w B d vs ps m=false)(w':World)(hb:Below B w w'):
  Calls Tryz.prog 17 #[.agg #[.slice V nv cv,.slice Q nq cq,.int .u8 m.k,.int .i64 m.num,.string m.nm,.slice m.A m.n m.cap]] w' fun en w''=>(∃A c,en=.returned (.slice A 0 c))∧Below w'.heap.size w' w'':=by
 have HB:=aA hb;have JY:Hid (∀W,Below B w W->Calls Tryz.prog 16 #[.agg #[.slice V nv cv,.slice Q nq cq,.int .u8 m.k,.int .i64 m.num,.string m.nm,.slice m.A m.n m.cap]] W fun en w''=>en=.returned (.bool false)∧Below W.heap.size W w''):=aA fun W hW=>(kL bG V nv cv vs hv hnv d8 Q nq cq ps hq hnq hnq2 m hm W hW).mono fun en w'' h=>⟨by rw[h.1,fZ],h.2⟩
 have bC:B<=w'.heap.size:=by have:=hb.size;omega
 clear hb hv hnv hq hnq fZ mI hm rF;obtain⟨mk,mnum,mnm,mA,mn,mcap⟩:=m;dsimp only at *;go_enter Tryz.func17,Tryz.ntmps17;go_upto_region 1 with fail;refine aB ?_;intro w1 aF;have aG:Below w'.heap.size w' w1:=by rw[aF];go_grown
 have K1:Blk w1 w'.heap.size 28 #[.slice V nv cv,.slice Q nq cq,.int .u8 mk,.int .i64 mnum,.string mnm,.slice mA mn mcap]:=by rw[aF];exact aQ
 have a9:=aA K1;have aO:=aA aG;clear aF aG;obtain⟨aL,aJ,aK⟩:=K1.open_;clear K1;go_wp2_with fail;refine(JY.out w1 (HB.out.trans (aO.out.mono bC))).mono ?_;rintro en w2 ⟨rfl,hb2⟩;have aP:=aA (aO.out.next hb2);clear aJ aL aK hb2 a9 aO JY;go_wp2_with fail;go_ret;exact⟨⟨_,_,rfl⟩,aP.out⟩
noncomputable def uV(w:World)(B d:Nat)(vs:List Vr)(ps:List Pc)(m:Nd):Nat:=if validB w B d vs ps m=true then FR w B d vs ps m else 0
theorem p9{w:World}{B d:Nat}(bG:B<=w.heap.size)(V:Option Addr)(nv cv:Nat)(vs:List Vr)(hv:VsAt w B V vs)(hnv:vs.length=nv)(d8:nv<=17592186043904)(gY:nv<=cv)(rF:V=none->cv=0)(Q:Option Addr)(nq cq:Nat)(ps:List Pc)(hq:PrsAt w B d Q ps)(hnq:ps.length=nq)(hnq2:nq<=17592186043904)(mI:∀p∈ps,p.V=none->p.cv=0)(m:Nd)(hm:KV w B d m)(w':World)(hb:Below B w w'):
  Calls Tryz.prog 17 #[.agg #[.slice V nv cv,.slice Q nq cq,.int .u8 m.k,.int .i64 m.num,.string m.nm,.slice m.A m.n m.cap]] w' fun en w''=>(∃A c,en=.returned (.slice A (uV w B d vs ps m) c))∧Below w'.heap.size w' w'':=by
 unfold uV;cases h:validB w B d vs ps m with
 |true=>simpa using LT bG V nv cv vs hv hnv d8 gY rF Q nq cq ps hq hnq hnq2 mI m hm h w' hb
 |false=>simpa using LS bG V nv cv vs hv hnv d8 gY rF Q nq cq ps hq hnq hnq2 mI m hm h w' hb
end Go.Proofs.YtakfdnnlhjhcfaaGreatDoor
