/- Part of the proof. -/
import Derived.Test.YtakfdnnlhjhcfaaGreatDoorA25
import Derived.Test.YtakfdnnlhjhcfaaGreatDoorA34
set_option linter.unusedVariables false
set_option linter.unusedSimpArgs false
set_option maxRecDepth 100000
set_option maxHeartbeats 4000000
namespace Bk
open Go Go.RowKit
structure Fld where
 y:Nd
 v:Int
 b:Bool
def Fld.cells(f:Fld):List Value:= [.int .u8 f.y.k,.int .i64 f.y.num,.string f.y.nm,.slice f.y.A f.y.n f.y.cap,.int .i64 f.v,.bool f.b]
theorem Fld.one(l:List Fld):∀u∈l.flatMap Fld.cells,u.oneCell'=true:=by
 intro u hu;obtain⟨f,_,h⟩:=List.mem_flatMap.1 hu;simp[Fld.cells]at h;rcases h with rfl|rfl|rfl|rfl|rfl|rfl<;>rfl
theorem YW:∀(l:List Fld)(i:Nat)(f:Fld),l[i]?=some f->∀t v,f.cells[t]?=some v->(l.flatMap Fld.cells)[i*6+t]?=some v
 | [],i,b,h,t,v,hv=>by cases h
 |y::ys,0,b,h,t,v,hv=>by
  simp at h;subst h;rw[List.flatMap_cons,Nat.zero_mul,Nat.zero_add,List.getElem?_append_left (lgS.1 hv).1];exact hv
 |y::ys,i+1,b,h,t,v,hv=>by
  rw[List.flatMap_cons,List.getElem?_append_right (by show 6<=_;omega)];have:=YW ys i b (by simpa using h) t v hv;rw[<-this];congr 1;show(i+1)*6+t-6=_;omega
theorem XF{w:World}{g:Nat}{t:TypeId}{u0 u1 u2 u3 u4 u5:Value}(h:Blk w g t #[u0,u1,u2,u3,u4,u5]):Sl w (fun _=>True) 6 (.slice (some ⟨g,0,none⟩) 1 1) 1 [u0,u1,u2,u3,u4,u5]:=
 ⟨_,1,rfl,aH _,(fun e=>by cases e),rfl,fun _=>⟨g,0,rfl,trivial,fun j v hv=>by rw[Nat.zero_add];exact(h.cell j).trans (by rw[List.getElem?_toArray];exact hv)⟩⟩
theorem NA{w:World}{D:Nat->Prop}{A:Option Addr}{n c:Nat}{l:List Fld}(h:Sl w D 6 (.slice A n c) n (l.flatMap Fld.cells)){i:Nat}{f:Fld}(hi:l[i]?=some f)(hn:0<n):∃g o,A=some ⟨g,o,none⟩∧w.cell? ⟨g,o+i*6,none⟩=some (.int .u8 f.y.k)∧w.cell? ⟨g,o+i*6+1,none⟩=some (.int .i64 f.y.num)∧w.cell? ⟨g,o+i*6+2,none⟩=some (.string f.y.nm)∧w.cell? ⟨g,o+i*6+3,none⟩=some (.slice f.y.A f.y.n f.y.cap)∧w.cell? ⟨g,o+i*6+4,none⟩=some (.int .i64 f.v)∧w.cell? ⟨g,o+i*6+5,none⟩=some (.bool f.b):=by
 obtain⟨A',c',e,_,_,hR⟩:=h;injection e with e1 _ _;subst e1;obtain⟨g,o,rfl,_,hc⟩:=hR.2 hn;have k:=fun t v(hv:f.cells[t]?=some v)=>hc _ _ (YW l i f hi t v hv)
 exact⟨g,o,rfl,k 0 _ rfl,k 1 _ rfl,k 2 _ rfl,k 3 _ rfl,k 4 _ rfl,k 5 _ rfl⟩
end Bk
namespace Go.Proofs.YtakfdnnlhjhcfaaGreatDoor
open Go.RowKit Bk
theorem GP:(Tryz.prog.info? 213).map (fun i=>(i.zero,i.size,i.bytes))=some (some (.agg #[.int .u8 0,.int .i64 0,.string ⟨#[]⟩,.slice none 0 0,.int .i64 0,.bool false]),6,72):=by kernel_rfl
theorem AZ:(Tryz.prog.info? 213).map (·.size)=some 6:=by kernel_rfl
def Aj(w:World)(en:Ending)(w':World):Prop:=(∃f:Fld,en=.returned (.agg #[.int .u8 f.y.k,.int .i64 f.y.num,.string f.y.nm,.slice f.y.A f.y.n f.y.cap,.int .i64 f.v,.bool f.b])∧I64 f.v)∧Below w.heap.size w w'
theorem UI{w:World}{B:Nat}(bG:B<=w.heap.size)(d:Nat)(x:Nd)(hx:KV w B (d+1) x)(hs:Sm w B (d+1) x)(hf:∀i y,i<x.n->Kid w B x i y->∀W,Below B w W->Calls Tryz.prog 179 #[.agg #[.int .u8 y.k,.int .i64 y.num,.string y.nm,.slice y.A y.n y.cap]] W (Aj W))(w':World)(hb:Below B w w'):
  Calls Tryz.prog 193 #[.slice x.A x.n x.cap,.func (.func 179) #[] #[]] w' fun en w''=>(∃(v:Value)(l:List Fld),en=.returned v∧w''.ownsRow w'.heap.size 213 6 v x.n (l.flatMap Fld.cells)∧l.length=x.n∧∀f,f∈l->I64 f.v)∧Below w'.heap.size w' w'':=by
 obtain⟨_,_,f9,mD,_,dE⟩:=hx;obtain⟨hn2,_⟩:=hs;obtain⟨k,num,nm,A,n,cap⟩:=x;have HK:=aA dE;have HB:=aA hb;have HF:=aA hf;obtain⟨i4,li,lz,ls,lb⟩:=info_parts GP;have HI:=aA li;have HZ:=aA lz;have lI:=aA ls;have jY:=aA lb;clear dE hb hf f9 mD li lz ls lb;dsimp only at *;go_enter Tryz.func193,Tryz.ntmps193;go_wp2_with fail
 go_loopw [5,10] (fun v5 v10 wr=>∃(j:Nat)(l:List Fld),j<=n∧v10=.int .i64 j∧l.length=j∧wr.ownsRow w'.heap.size 213 6 v5 j (l.flatMap Fld.cells)∧(∀f,f∈l->I64 f.v)∧Below w'.heap.size w' wr) (fun _ v _=>n-(intOf v).toNat)
 case atStart=>exact⟨0,[],fI _,rfl,rfl,⟨rfl,.inl ⟨rfl,rfl⟩⟩,(fun f h=>by cases h),aM _ _⟩
 case round=>
  obtain⟨j,l,hj,rfl,hll,bB,fQ,cF⟩:=hrel;obtain⟨A3,cq,rfl⟩:=aI bB;have HO:=aA bB;have gO:=aA fQ;have cG:=aA cF;have wT:=cF.size;clear bB fQ cF;by_cases e9:j<n
  ·obtain⟨y,cS,iW⟩:=HK.out j e9
   have gE:=aA cS;obtain⟨g,o,eY,cR,c0,c1,c2,c3⟩:=cS.cells (HB.out.trans (cG.out.mono (by have:=HB.out.size;omega)));simp only at eY;subst eY;have j0:(0:Int)<=(j:Int):=by omega
   have j1:(j:Int)<(n:Int):=by omega
   clear cS iW;go_upto_region 5 with fail;refine aB ?_;intro w2 eD;have hb2:Below wr.heap.size wr w2:=by rw[eD];go_grown
   have K2:Blk w2 wr.heap.size 26 #[.int .u8 y.k,.int .i64 y.num,.string y.nm,.slice y.A y.n y.cap]:=by rw[eD];exact aQ
   have aP:=aA hb2;clear eD c0 c1 c2 c3 hb2;obtain⟨eL,eC,eF⟩:=K2.open_;clear K2;go_wp2_with fail;refine(HF.out j y e9 gE.out _ (HB.out.trans ((cG.out.next aP.out).mono (by have:=HB.out.size;omega)))).mono ?_;rintro en w3 ⟨⟨f,rfl,ZI⟩,aT⟩;have HFV:=aA ZI;have bD:=aA (aP.out.next aT);clear ZI aT eC eL eF;have JR:=aA (aZ HO.out bD.out (aH _));have WC:=bD.out.size;go_wp2_with (at_builtin;refine dF rfl (.tmp 14) (.tmp 18) 226 rfl w'.heap.size 213 i4 _ 6 72 Tryz.underlying226 HI.out HZ.out lI.out jY.out rfl (by decide) (.slice A3 j cq) j (l.flatMap Fld.cells) rfl (JR.out.alloc _) rfl (XF (Blk.new _ _ _)) (by intro u hu;simp at hu;rcases hu with rfl|rfl|rfl|rfl|rfl|rfl<;>rfl) (by unfold maxLen;omega) (by omega) (by simp;omega) ?_);intro v2 w4 bB eH _;have lY:Hid (w4.ownsRow w'.heap.size 213 6 v2 (j+1) ((l++ [f]).flatMap Fld.cells)):=aA (by rw[List.flatMap_append];exact bB);have dQ:Hid (Below w'.heap.size w' w4):=aA (((cG.out.next bD.out).alloc (by omega) _).grown eH (by simp;omega) (by intro k hk;exact(bH HO.out hk).1));clear bB eH;go_wp2_with fail;exact⟨⟨j+1,l++ [f],by omega,by go_num,by simp[hll],lY.out,(fun f' h=>by rcases List.mem_append.1 h with h|h;exact gO.out f' h;simp at h;subst h;exact HFV.out),dQ.out⟩,by simp[intOf];omega⟩
  ·obtain rfl:j=n:=by omega
   go_wp2_with fail;go_ret;exact⟨⟨_,l,rfl,HO.out,hll,gO.out⟩,cG.out⟩
theorem qM{fn:Func}{p:Tmp}(h:fn.results=#[.cell p 26]){tmps:Array Value}{w0 wf:World}{g:Nat}{y:Nd}(hp:tmps.getD p undef=.pointer (some ⟨g,0,none⟩))(hg:Blk wf g 26 #[.int .u8 y.k,.int .i64 y.num,.string y.nm,.slice y.A y.n y.cap])(hb:Below w0.heap.size w0 wf):
  bodyPost Tryz.prog fn (fun en w'=>(∃y:Nd,en=.returned (.agg #[.int .u8 y.k,.int .i64 y.num,.string y.nm,.slice y.A y.n y.cap]))∧Below w0.heap.size w0 w') .ret {tmps:=tmps,defers:= []} wf:=
 bodyPost_ret_by (eP h _ _ g _ _ _ hp hg Tryz.underlying26 rfl (by rw[yT];rfl)) rfl ⟨⟨y,rfl⟩,hb⟩
theorem iA{w:World}{g:Nat}{v0 v1 v2 v3:Value}(h:Blk w g 26 #[.int .u8 0,.int .i64 0,.string ⟨#[]⟩,.slice none 0 0]):Blk ((((w.setCell ⟨g,0,none⟩ v0).setCell ⟨g,1,none⟩ v1).setCell ⟨g,2,none⟩ v2).setCell ⟨g,3,none⟩ v3) g 26 #[v0,v1,v2,v3]∧Fr (· =g) w ((((w.setCell ⟨g,0,none⟩ v0).setCell ⟨g,1,none⟩ v1).setCell ⟨g,2,none⟩ v2).setCell ⟨g,3,none⟩ v3):=
 ⟨(((h.set_ 0 v0).set_ 1 v1).set_ 2 v2).set_ 3 v3,Fr.set (Fr.set (Fr.set (Fr.set (Fr.refl (· =g) _) rfl _) rfl _) rfl _) rfl _⟩
theorem MN(v:Int)(hv:0<=v)(w:World):Calls Tryz.prog 195 #[.int .i64 v] w (fun en w'=>(∃y:Nd,en=.returned (.agg #[.int .u8 y.k,.int .i64 y.num,.string y.nm,.slice y.A y.n y.cap]))∧Below w.heap.size w w'):=by
 go_enter Tryz.func195,Tryz.ntmps195;go_upto_region 1 with fail;refine aB ?_;intro w1 aF;have aG:Below w.heap.size w w1:=by rw[aF];go_grown
 have K2:Blk w1 w.heap.size 26 #[.int .u8 0,.int .i64 0,.string ⟨#[]⟩,.slice none 0 0]:=by rw[aF];exact aQ
 have aO:=aA aG;have bI:=aA K2;clear aF aG;obtain⟨eL,eC,eF⟩:=K2.open_;clear K2;go_wp2_with fail;obtain⟨h1,h2⟩:=iA (v0:=.int .u8 1) (v1:=.int .i64 v) (v2:=.string ⟨#[]⟩) (v3:=.slice none 0 0) bI.out;exact qM (y:=⟨1,v,⟨#[]⟩,none,0,0⟩) rfl rfl h1 (aO.out.trans (h2.below aO.out.size fun q hq=>by omega))
theorem Od(v:Int)(hv:I64 v)(w:World):Calls Tryz.prog 195 #[.int .i64 v] w (fun en w'=>(∃y:Nd,en=.returned (.agg #[.int .u8 y.k,.int .i64 y.num,.string y.nm,.slice y.A y.n y.cap]))∧Below w.heap.size w w'):=by
 rcases Int.lt_or_le v 0 with aAA|Gy;rotate_left
 ·exact MN v Gy w
 have HL:=aA MN;unfold I64 at hv;by_cases hm:v= -9223372036854775808
 ·subst hm
  clear hv aAA;go_enter Tryz.func195,Tryz.ntmps195;go_upto_region 1 with fail;refine aB ?_;intro w1 aF;have aG:Below w.heap.size w w1:=by rw[aF];go_grown
  have K2:Blk w1 w.heap.size 26 #[.int .u8 0,.int .i64 0,.string ⟨#[]⟩,.slice none 0 0]:=by rw[aF];exact aQ
  have aO:=aA aG;have bI:=aA K2;clear aF aG K2;go_wp2_with fail;refine(HL.out _ (by decide) w1).mono ?_;rintro en w2 ⟨⟨y,rfl⟩,hb2⟩;have aP:=aA (aO.out.next hb2);have G8:=aA (bI.out.next hb2);clear hb2;go_wp2_with fail;refine(HL.out _ (by decide) w2).mono ?_;rintro en w3 ⟨⟨y3,rfl⟩,aT⟩;have bD:=aA (aP.out.next aT);have uA:=aA ((G8.out.next aT).next ((aM _ _).alloc (aH _) (.cells #[.int .u8 y.k,.int .i64 y.num,.string y.nm,.slice y.A y.n y.cap,.int .u8 y3.k,.int .i64 y3.num,.string y3.nm,.slice y3.A y3.n y3.cap] 26)));clear aT;obtain⟨eL,eC,eF⟩:=uA.out.open_;go_wp2_with fail;obtain⟨h1,h2⟩:=iA (v0:=.int .u8 8) (v1:=.int .i64 0) (v2:=.string ⟨#[]⟩) (v3:=.slice (some ⟨w3.heap.size,0,none⟩) 2 2) uA.out;have hB:=bD.out.alloc bD.out.size (.cells #[.int .u8 y.k,.int .i64 y.num,.string y.nm,.slice y.A y.n y.cap,.int .u8 y3.k,.int .i64 y3.num,.string y3.nm,.slice y3.A y3.n y3.cap] 26);exact qM (y:=⟨8,0,⟨#[]⟩,some ⟨w3.heap.size,0,none⟩,2,2⟩) rfl rfl h1 (hB.trans (h2.below hB.size fun q hq=>by omega))
 ·have hm2:(v== -9223372036854775808)=false:=by simpa using hm
  have hm3:(decide (v≥0))=false:=by simp;omega
  have hm4:IntKind.i64.wrap (-v)= -v:=by
   simp[IntKind.wrap,IntKind.bits,IntKind.signed];omega
  go_enter Tryz.func195,Tryz.ntmps195;go_upto_region 1 with fail;refine aB ?_;intro w1 aF;have aG:Below w.heap.size w w1:=by rw[aF];go_grown
  have K2:Blk w1 w.heap.size 26 #[.int .u8 0,.int .i64 0,.string ⟨#[]⟩,.slice none 0 0]:=by rw[aF];exact aQ
  have aO:=aA aG;have bI:=aA K2;clear aF aG K2;go_wp2_with fail;refine(HL.out _ (by omega) w1).mono ?_;rintro en w2 ⟨⟨y,rfl⟩,hb2⟩;have aP:=aA (aO.out.next hb2);have G8:=aA ((bI.out.next hb2).next ((aM _ _).alloc (aH _) (.cells #[.int .u8 y.k,.int .i64 y.num,.string y.nm,.slice y.A y.n y.cap] 26)));clear hb2;obtain⟨eL,eC,eF⟩:=G8.out.open_;go_wp2_with fail;obtain⟨h1,h2⟩:=iA (v0:=.int .u8 6) (v1:=.int .i64 0) (v2:=.string ⟨#[]⟩) (v3:=.slice (some ⟨w2.heap.size,0,none⟩) 1 1) G8.out;have hB:=aP.out.alloc aP.out.size (.cells #[.int .u8 y.k,.int .i64 y.num,.string y.nm,.slice y.A y.n y.cap] 26);exact qM (y:=⟨6,0,⟨#[]⟩,some ⟨w2.heap.size,0,none⟩,1,1⟩) rfl rfl h1 (hB.trans (h2.below hB.size fun q hq=>by omega))
theorem pO{P:Program}{f:FuncId}{args:Array Value}{w:World}{n:Nat}{v:Value}
  (h:Calls P f args (w.drewN n) fun e w'=>e=.returned v∧w.drewN n=w'):Calls P f args (w.drewN n) fun e w''=>e=.returned v∧∃m,w''=w.drewN m:=
 h.mono fun _ _⟨he,hm⟩=>⟨he,n,hm.symm⟩
theorem Below.drewN_(n:Nat)(w:World)(k:Nat)(h:n<=w.heap.size):Below n w (w.drewN k):=⟨rfl,rfl,rfl,aH _,fun _ _=>rfl⟩
def FdAt(w:World)(A:Option Addr)(n:Nat):Prop:=∀j,j<n->∃(f:Fld)(g o:Nat),A=some ⟨g,o,none⟩∧I64 f.v∧w.cell? ⟨g,o+j*6,none⟩=some (.int .u8 f.y.k)∧w.cell? ⟨g,o+j*6+1,none⟩=some (.int .i64 f.y.num)∧w.cell? ⟨g,o+j*6+2,none⟩=some (.string f.y.nm)∧w.cell? ⟨g,o+j*6+3,none⟩=some (.slice f.y.A f.y.n f.y.cap)∧w.cell? ⟨g,o+j*6+4,none⟩=some (.int .i64 f.v)∧w.cell? ⟨g,o+j*6+5,none⟩=some (.bool f.b)
theorem FdAt.of{w:World}{A:Option Addr}{n c:Nat}{l:List Fld}{D:Nat->Prop}(h:Sl w D 6 (.slice A n c) n (l.flatMap Fld.cells))(hl:l.length=n)(hv:∀f,f∈l->I64 f.v):FdAt w A n:=fun j hj=>by
 have hi:l[j]?=some (l[j]'(by omega)):=dR (by omega);obtain⟨g,o,e,k⟩:=NA h hi (by omega);exact⟨_,g,o,e,hv _ (List.getElem_mem _),k⟩
theorem FdAt.next{w w':World}{A:Option Addr}{n B:Nat}(h:FdAt w A n)(hA:∀g o,A=some ⟨g,o,none⟩->g<B)(hb:Below B w w'):FdAt w' A n:=fun j hj=>by
 obtain⟨f,g,o,e,hv,k0,k1,k2,k3,k4,k5⟩:=h j hj;have hg:=hA g o e;exact⟨f,g,o,e,hv,(hb.cell (p:=⟨g,_,none⟩) hg).trans k0,(hb.cell (p:=⟨g,_,none⟩) hg).trans k1,(hb.cell (p:=⟨g,_,none⟩) hg).trans k2,(hb.cell (p:=⟨g,_,none⟩) hg).trans k3,(hb.cell (p:=⟨g,_,none⟩) hg).trans k4,(hb.cell (p:=⟨g,_,none⟩) hg).trans k5⟩
theorem VK{w:World}{B d:Nat}(e:Ex)(x:Nd)(hx:KV w B d x)(he:EV w B aS e x)(A:Option Addr)(c:Nat)(w':World)(hA:∀g o,A=some ⟨g,o,none⟩->g<w'.heap.size)(hF:FdAt w' A x.n)(hn:x.n<=10000):
  Calls Tryz.prog 194 #[.agg #[.int .u8 x.k,.int .i64 x.num,.string x.nm,.slice x.A x.n x.cap],.slice A x.n c] w' fun en w''=>(∃v b,en=.returned (.tuple #[.int .i64 v,.bool b])∧I64 v)∧Below w'.heap.size w' w'':=by
 have HE:=aA he;have HF:=aA hF;have HA:=aA hA;have AN:I64 x.num:=by cases d with|zero=>exact hx.elim|succ d=>exact hx.2.1
 have HU:=aA AN;obtain⟨k,num,nm,AX,n,cap⟩:=x;clear he hF hA AN hx;dsimp only at *;go_enter Tryz.func194,Tryz.ntmps194;go_upto_region 1 with fail;refine aB ?_;intro w1 aF;have aG:Below w'.heap.size w' w1:=by rw[aF];go_grown
 have K1:Blk w1 w'.heap.size 26 #[.int .u8 k,.int .i64 num,.string nm,.slice AX n cap]:=by rw[aF];exact aQ
 have aO:=aA aG;have a9:=aA K1;have iL:=aA (HF.out.next HA.out aG);have hs1:=aG.size;clear aF aG K1;go_wp2_with fail
 go_loopw [12] (fun v12 wr=>∃j:Nat,j<=n∧v12=.int .i64 j∧Below w1.heap.size w1 wr) (fun v _=>n-(intOf v).toNat)
 case atStart=>exact⟨0,fI _,rfl,aM _ _⟩
 case round=>
  obtain⟨j,hj,rfl,cF⟩:=hrel;have cG:=aA cF;have s8:=aA (iL.out.next (fun g o h=>by have:=HA.out g o h;omega) cF);have dU:=aA (aO.out.next cF);clear cF;by_cases e9:j<n
  ·obtain⟨f,g,o,rfl,hv,c0,c1,c2,c3,c4,c5⟩:=s8.out j e9
   have hg:=HA.out g o rfl;have j0:(0:Int)<=(j:Int):=by omega
   have j1:(j:Int)<(n:Int):=by omega
   go_upto_region 4 with fail;refine aB ?_;intro w2 eD;have hb2:Below wr.heap.size wr w2:=by rw[eD];go_grown
   have K2:Blk w2 wr.heap.size 213 #[.int .u8 f.y.k,.int .i64 f.y.num,.string f.y.nm,.slice f.y.A f.y.n f.y.cap,.int .i64 f.v,.bool f.b]:=by rw[eD];exact aQ
   have aP:=aA hb2;clear eD hb2 c0 c1 c2 c3 c4 c5;obtain⟨eL,eC,eF⟩:=K2.open_;clear K2;obtain⟨fb,hfb⟩:∃b,f.b=b:=⟨_,rfl⟩;rw[hfb]at eC;clear hfb;cases fb with
   |false=>
    go_wp2_with fail;refine bodyPost_ret_by (results_tmp2 rfl _ _ _) rfl ?_;exact⟨⟨0,false,rfl,I64.zero⟩,dU.out.next aP.out⟩
   |true=>
    go_wp2_with fail;exact⟨⟨j+1,by omega,by go_num,cG.out.next aP.out⟩,by simp[intOf];omega⟩
  ·obtain rfl:j=n:=by omega
   have fL:=aA (a9.out.next cG.out);obtain⟨aL,aJ,aK⟩:=fL.out.open_;have he:=HE.out;cases e with
   |num v=>
    obtain rfl:k=1:=he.1;clear he;go_wp2_with fail;refine bodyPost_ret_by (results_tmp2 rfl _ _ _) rfl ?_;exact⟨⟨num,true,rfl,HU.out⟩,dU.out⟩
   |var s=>
    obtain rfl:k=2:=he.1;clear he;go_wp2_with fail;refine bodyPost_ret_by (results_tmp2 rfl _ _ _) rfl ?_;exact⟨⟨0,false,rfl,I64.zero⟩,dU.out⟩
   |top s=>
    obtain rfl:k=4:=he.1;clear he;go_wp2_with fail;refine bodyPost_ret_by (results_tmp2 rfl _ _ _) rfl ?_;exact⟨⟨0,false,rfl,I64.zero⟩,dU.out⟩
   |size s=>
    obtain rfl:k=5:=he.1;clear he;go_wp2_with fail;refine bodyPost_ret_by (results_tmp2 rfl _ _ _) rfl ?_;exact⟨⟨0,false,rfl,I64.zero⟩,dU.out⟩
   |item s a=>
    obtain rfl:k=3:=he.1;clear he;go_wp2_with fail;refine bodyPost_ret_by (results_tmp2 rfl _ _ _) rfl ?_;exact⟨⟨0,false,rfl,I64.zero⟩,dU.out⟩
   |un op a=>
    obtain⟨hk,fY,_,_,NX,_⟩:=he;dsimp only at hk NX;subst hk NX;obtain⟨f,g,o,rfl,hv,c0,c1,c2,c3,c4,c5⟩:=s8.out 0 (by omega);have hg:=HA.out g o rfl;simp only[Nat.zero_mul,Nat.add_zero]at c4;obtain⟨r,hr⟩:∃r,(if k=6 then wrap64 (-f.v)else if f.v=0 then 1 else 0)=r:=⟨_,rfl⟩;have hri:I64 r:=by
     rw[<-hr];split
     ·exact eK _
     ·exact gU
    have HR:=aA hri;have CE:=aA (fun W=>(CT k f.v fY W).mono (R':=fun e w'=>e=.returned (.tuple #[.int .i64 r,.int .i64 0])∧W=w') (fun e w' h=>by rw[hr]at h;exact h));clear hr hri hv c0 c1 c2 c3 c5;rcases fY with rfl|rfl
    ·go_wp2_with fail
     go_quiet ((go_at_call 189;exact pO (CE.out _)));go_wp2_with fail;refine bodyPost_ret_by (results_tmp2 rfl _ _ _) rfl ?_;exact⟨⟨r,true,rfl,HR.out⟩,dU.out.trans (Below.drewN_ _ _ _ (by have:=dU.out.size;omega))⟩
    ·go_wp2_with fail
     go_quiet ((go_at_call 189;exact pO (CE.out _)));go_wp2_with fail;refine bodyPost_ret_by (results_tmp2 rfl _ _ _) rfl ?_;exact⟨⟨r,true,rfl,HR.out⟩,dU.out.trans (Below.drewN_ _ _ _ (by have:=dU.out.size;omega))⟩
   |bin op a b=>
    obtain⟨hk,fY,_,_,NX,_⟩:=he;dsimp only at hk NX;subst hk NX;obtain⟨f,g,o,rfl,hv,c0,c1,c2,c3,c4,c5⟩:=s8.out 0 (by omega);obtain⟨f2,g2,o2,e2,AS,d0,d1,d2,d3,d4,d5⟩:=s8.out 1 (by omega);injection e2 with e2;injection e2 with e2 e3;subst e2;subst e3;have hg:=HA.out g o rfl;simp only[Nat.zero_mul,Nat.add_zero]at c4;obtain⟨r,er,hr⟩:∃r er,apply k f.v f2.v=(r,er):=⟨_,_,rfl⟩;have hri:I64 r:=by have:=xV (y:=f2.v) hv k;rw[hr]at this;exact this
    have HR:=aA hri;have Km:=aA (fun W=>(CQ k f.v f2.v W).mono (R':=fun e w'=>e=.returned (.tuple #[.int .i64 r,.int .i64 er])∧W=w') (fun e w' h=>by rw[hr]at h;exact h));have k1:(k==1)=false:=bqN.2 (by omega);have k2:(k==2)=false:=bqN.2 (by omega);have k3:(k==3)=false:=bqN.2 (by omega);have k4:(k==4)=false:=bqN.2 (by omega);have k5:(k==5)=false:=bqN.2 (by omega);have k6:(k==6)=false:=bqN.2 (by omega);have k7:(k==7)=false:=bqN.2 (by omega);clear hr hri hv AS c0 c1 c2 c3 c5 d0 d1 d2 d3 d5 fY;go_wp2_with fail;go_quiet ((go_at_call 190;exact pO (Km.out _)));go_wp2_with fail;refine bodyPost_ret_by (results_tmp2 rfl _ _ _) rfl ?_;exact⟨⟨r,_,rfl,HR.out⟩,dU.out.trans (Below.drewN_ _ _ _ (by have:=dU.out.size;omega))⟩
theorem UO(f:Fld)(w:World):Calls Tryz.prog 197 #[.agg #[.int .u8 f.y.k,.int .i64 f.y.num,.string f.y.nm,.slice f.y.A f.y.n f.y.cap,.int .i64 f.v,.bool f.b]] w fun en w'=>(∃y:Nd,en=.returned (.agg #[.int .u8 y.k,.int .i64 y.num,.string y.nm,.slice y.A y.n y.cap]))∧Below w.heap.size w w':=by
 go_enter Tryz.func197,Tryz.ntmps197;go_upto_region 1 with fail;refine aB ?_;intro w1 aF;have aG:Below w.heap.size w w1:=by rw[aF];go_grown
 have K1:Blk w1 w.heap.size 213 #[.int .u8 f.y.k,.int .i64 f.y.num,.string f.y.nm,.slice f.y.A f.y.n f.y.cap,.int .i64 f.v,.bool f.b]:=by rw[aF];exact aQ
 have K2:Blk w1 (w.heap.size+1) 26 #[.int .u8 0,.int .i64 0,.string ⟨#[]⟩,.slice none 0 0]:=by rw[aF];exact aQ
 have aO:=aA aG;have bI:=aA K2;clear aF aG;obtain⟨aL,aJ,aK⟩:=K1.open_;obtain⟨eL,eC,eF⟩:=K2.open_;clear K1 K2;go_wp2_with fail;obtain⟨h1,h2⟩:=iA (v0:=.int .u8 f.y.k) (v1:=.int .i64 f.y.num) (v2:=.string f.y.nm) (v3:=.slice f.y.A f.y.n f.y.cap) bI.out;exact qM (y:=f.y) rfl rfl h1 (aO.out.trans (h2.below aO.out.size fun q hq=>by omega))
theorem UJ(A:Option Addr)(n c:Nat)(w':World)(hA:∀g o,A=some ⟨g,o,none⟩->g<w'.heap.size)(hF:FdAt w' A n)(hn:n<=10000):
  Calls Tryz.prog 196 #[.slice A n c,.func (.func 197) #[] #[]] w' fun en w''=>(∃A n c,en=.returned (.slice A n c))∧Below w'.heap.size w' w'':=by
 have HF:=aA hF;have HA:=aA hA;have H1:=aA UO;obtain⟨i4,li,lz,ls,lb⟩:=info_parts vX;have HI:=aA li;have HZ:=aA lz;have lI:=aA ls;have jY:=aA lb;clear hF hA li lz ls lb;go_enter Tryz.func196,Tryz.ntmps196;go_wp2_with fail
 go_loopw [5,10] (fun v5 v10 wr=>∃(j:Nat)(l:List Value),j<=n∧v10=.int .i64 j∧wr.ownsRow w'.heap.size 26 4 v5 j l∧Below w'.heap.size w' wr) (fun _ v _=>n-(intOf v).toNat)
 case atStart=>exact⟨0,[],fI _,rfl,⟨rfl,.inl ⟨rfl,rfl⟩⟩,aM _ _⟩
 case round=>
  obtain⟨j,l,hj,rfl,bB,cF⟩:=hrel;obtain⟨A3,cq,rfl⟩:=aI bB;have HO:=aA bB;have cG:=aA cF;have wT:=cF.size;clear bB cF;by_cases e9:j<n
  ·obtain⟨f,g,o,rfl,hv,c0,c1,c2,c3,c4,c5⟩:=HF.out.next HA.out cG.out j e9
   have hg:=HA.out g o rfl;have j0:(0:Int)<=(j:Int):=by omega
   have j1:(j:Int)<(n:Int):=by omega
   go_upto_region 5 with fail;refine aB ?_;intro w2 eD;have hb2:Below wr.heap.size wr w2:=by rw[eD];go_grown
   have K2:Blk w2 wr.heap.size 213 #[.int .u8 f.y.k,.int .i64 f.y.num,.string f.y.nm,.slice f.y.A f.y.n f.y.cap,.int .i64 f.v,.bool f.b]:=by rw[eD];exact aQ
   have aP:=aA hb2;clear eD hb2 c0 c1 c2 c3 c4 c5;obtain⟨eL,eC,eF⟩:=K2.open_;clear K2;go_wp2_with fail;refine(H1.out f w2).mono ?_;rintro en w3 ⟨⟨y,rfl⟩,aT⟩;have bD:=aA (aP.out.next aT);clear aT eC eL eF;have JR:=aA (aZ HO.out bD.out (aH _));have WC:=bD.out.size;go_wp2_with (at_builtin;refine dF rfl (.tmp 14) (.tmp 18) 24 rfl w'.heap.size 26 i4 _ 4 56 Tryz.underlying24 HI.out HZ.out lI.out jY.out rfl (by decide) (.slice A3 j cq) j l rfl (JR.out.alloc _) rfl (tT (Blk.new _ _ _)) (by intro u hu;simp at hu;rcases hu with rfl|rfl|rfl|rfl<;>rfl) (by unfold maxLen;omega) (by omega) (by simp;omega) ?_);intro v2 w4 bB eH _;have lY:=aA bB;have dQ:Hid (Below w'.heap.size w' w4):=aA (((cG.out.next bD.out).alloc (by omega) _).grown eH (by simp;omega) (by intro k hk;exact(bH HO.out hk).1));clear bB eH;go_wp2_with fail;exact⟨⟨j+1,_,by omega,by go_num,lY.out,dQ.out⟩,by simp[intOf];omega⟩
  ·obtain rfl:j=n:=by omega
   go_wp2_with fail;go_ret;exact⟨⟨_,_,_,rfl⟩,cG.out⟩
theorem N0{fn:Func}{p:Tmp}(h:fn.results=#[.cell p 213]){tmps:Array Value}{w0 wf:World}{g:Nat}{f:Fld}(hp:tmps.getD p undef=.pointer (some ⟨g,0,none⟩))(hg:Blk wf g 213 #[.int .u8 f.y.k,.int .i64 f.y.num,.string f.y.nm,.slice f.y.A f.y.n f.y.cap,.int .i64 f.v,.bool f.b])(hv:I64 f.v)(hb:Below w0.heap.size w0 wf):bodyPost Tryz.prog fn (Aj w0) .ret {tmps:=tmps,defers:= []} wf:=
 bodyPost_ret_by (eP h _ _ g _ _ _ hp hg Tryz.underlying213 rfl (by rw[AZ];rfl)) rfl ⟨⟨f,rfl,hv⟩,hb⟩
theorem DV{w:World}{g:Nat}{v0 v1 v2 v3 v4 v5:Value}(h:Blk w g 213 #[.int .u8 0,.int .i64 0,.string ⟨#[]⟩,.slice none 0 0,.int .i64 0,.bool false]):Blk ((((((w.setCell ⟨g,0,none⟩ v0).setCell ⟨g,1,none⟩ v1).setCell ⟨g,2,none⟩ v2).setCell ⟨g,3,none⟩ v3).setCell ⟨g,4,none⟩ v4).setCell ⟨g,5,none⟩ v5) g 213 #[v0,v1,v2,v3,v4,v5]∧Fr (· =g) w ((((((w.setCell ⟨g,0,none⟩ v0).setCell ⟨g,1,none⟩ v1).setCell ⟨g,2,none⟩ v2).setCell ⟨g,3,none⟩ v3).setCell ⟨g,4,none⟩ v4).setCell ⟨g,5,none⟩ v5):=
 ⟨(((((h.set_ 0 v0).set_ 1 v1).set_ 2 v2).set_ 3 v3).set_ 4 v4).set_ 5 v5,Fr.set (Fr.set (Fr.set (Fr.set (Fr.set (Fr.set (Fr.refl (· =g) _) rfl _) rfl _) rfl _) rfl _) rfl _) rfl _⟩
theorem MZ{w:World}{B:Nat}{e:Ex}{x:Nd}(h:EV w B aS e x){i:Nat}{y:Nd}(hi:i<x.n)(hk:Kid w B x i y):∃e',EV w B aS e' y:=by
 cases e with
 |item s a=>obtain⟨_,_,_,_,hn,z,h1,h2⟩:=h;obtain rfl:i=0:=(by omega);obtain rfl:=Kid.one h1 hk;exact⟨_,h2⟩
 |un op a=>obtain⟨_,_,_,_,hn,z,h1,h2⟩:=h;obtain rfl:i=0:=(by omega);obtain rfl:=Kid.one h1 hk;exact⟨_,h2⟩
 |bin op a b=>
  obtain⟨_,_,_,_,hn,z,z2,h1,h2,h3,h4⟩:=h;obtain rfl|rfl:i=0∨i=1:=by omega
  ·obtain rfl:=Kid.one h1 hk;exact⟨_,h3⟩
  ·obtain rfl:=Kid.one h2 hk;exact⟨_,h4⟩
 |_=>obtain⟨_,_,_,_,hn⟩:=h;omega
theorem MH{w:World}{B:Nat}(bG:B<=w.heap.size):∀(d:Nat)(x:Nd),KV w B d x->Sm w B d x->∀(e:Ex),EV w B aS e x->∀w',Below B w w'->Calls Tryz.prog 179 #[.agg #[.int .u8 x.k,.int .i64 x.num,.string x.nm,.slice x.A x.n x.cap]] w' (Aj w')
 |0,_,h,_,_,_=>h.elim
 |d+1,x,hx,hs,e,he=>fun w' hb=>by
  have Jh:=hx.2.2.2.2.2;have H1:=aA (fun W hW=>UI bG d x hx hs (fun i y hi hk W hW=>by
   obtain⟨y',k1,k2⟩:=Jh i hi;obtain rfl:=Kid.one hk k1;obtain⟨e',h'⟩:=MZ he hi hk;exact MH bG d y k2 (hs.2 i y hi hk) e' h' W hW) W hW)
  have HV:=aA (fun A c W hA hF=>VK e x hx he A c W hA hF hs.1);have hn2:=hs.1;have HB:=aA hb;obtain⟨k,num,nm,AX,n,cap⟩:=x;clear Jh hx hs he hb;dsimp only at *;go_enter Tryz.func179,Tryz.ntmps179;go_upto_region 1 with fail;refine aB ?_;intro w1 aF;have aG:Below w'.heap.size w' w1:=by rw[aF];go_grown
  have K1:Blk w1 w'.heap.size 26 #[.int .u8 k,.int .i64 num,.string nm,.slice AX n cap]:=by rw[aF];exact aQ
  have K2:Blk w1 (w'.heap.size+1) 213 #[.int .u8 0,.int .i64 0,.string ⟨#[]⟩,.slice none 0 0,.int .i64 0,.bool false]:=by rw[aF];exact aQ
  have aO:=aA aG;have a9:=aA K1;have bI:=aA K2;have hs1:=K2.lt;clear aF aG K2;obtain⟨aL,aJ,aK⟩:=K1.open_;clear K1;go_wp2_with fail;refine(H1.out w1 (HB.out.trans (aO.out.mono (by have:=HB.out.size;omega)))).mono ?_;rintro en w2 ⟨⟨v,l,rfl,bB,hl,Jj⟩,hb2⟩;obtain⟨A2,c2,rfl⟩:=aI bB;have IN:=aA (FdAt.of (Sl.of_own bB) hl Jj);have RH:Hid (∀g o,A2=some ⟨g,o,none⟩->g<w2.heap.size):=aA fun g o e=>(bH bB (by rw[e];rfl)).2
  have aP:=aA (aO.out.next hb2);have EP:=aA (a9.out.next hb2);have G8:=aA (bI.out.next hb2);clear bB hl Jj hb2 aL aJ aK;obtain⟨aL,aJ,aK⟩:=EP.out.open_;go_wp2_with fail;refine(HV.out A2 c2 w2 RH.out IN.out).mono ?_;rintro en w3 ⟨⟨v,b,rfl,hv⟩,aT⟩;have Nk:=aA hv;have bD:=aA (aP.out.next aT);have Wv:=aA (EP.out.next aT);have uA:=aA (G8.out.next aT);have Wm:=aA (IN.out.next RH.out aT);have HA3:Hid (∀g o,A2=some ⟨g,o,none⟩->g<w3.heap.size):=aA fun g o e=>by have:=RH.out g o e;have:=aT.size;omega
  clear hv aT aL aJ aK;cases b with
  |true=>
   go_wp2_with fail;refine(Od v Nk.out w3).mono ?_;rintro en w4 ⟨⟨y,rfl⟩,bV⟩;have dQ:=aA (bD.out.next bV);have EQ:=aA (uA.out.next bV);clear bV;obtain⟨eL,eC,eF⟩:=EQ.out.open_;go_wp2_with fail;obtain⟨h1,h2⟩:=DV (v0:=.int .u8 y.k) (v1:=.int .i64 y.num) (v2:=.string y.nm) (v3:=.slice y.A y.n y.cap) (v4:=.int .i64 v) (v5:=.bool true) EQ.out;exact N0 (f:=⟨y,v,true⟩) rfl rfl h1 Nk.out (dQ.out.trans (h2.below dQ.out.size fun q hq=>by omega))
  |false=>
   go_wp2_with fail;refine(UJ A2 n c2 w3 HA3.out Wm.out hn2).mono ?_;rintro en w4 ⟨⟨A4,n4,c4,rfl⟩,bV⟩;have dQ:=aA (bD.out.next bV);have EQ:=aA (uA.out.next bV);have Ls:=aA (Wv.out.next bV);clear bV;obtain⟨aL,aJ,aK⟩:=Ls.out.open_;go_upto_region 6 with fail;refine aB ?_;intro w5 jS;have r9:Fr (· =w'.heap.size) w4 w5:=by rw[jS];exact Fr.set (Fr.refl (· =w'.heap.size) _) rfl _
   have K15:Blk w5 w'.heap.size 26 #[.int .u8 k,.int .i64 num,.string nm,.slice A4 n4 c4]:=by rw[jS];exact Ls.out.set_ 3 (.slice A4 n4 c4)
   have Lv:=aA (r9.blk EQ.out (by omega));have gL:=aA (dQ.out.trans (r9.below dQ.out.size fun q hq=>by omega));clear jS r9 aL aJ aK;obtain⟨aL,aJ,aK⟩:=K15.open_;obtain⟨eL,eC,eF⟩:=Lv.out.open_;go_wp2_with fail;obtain⟨h1,h2⟩:=DV (v0:=.int .u8 k) (v1:=.int .i64 num) (v2:=.string nm) (v3:=.slice A4 n4 c4) (v4:=.int .i64 0) (v5:=.bool false) Lv.out;exact N0 (f:=⟨⟨k,num,nm,A4,n4,c4⟩,0,false⟩) rfl rfl h1 I64.zero (gL.out.trans (h2.below gL.out.size fun q hq=>by omega))
theorem UA{w:World}{B:Nat}(bG:B<=w.heap.size)(d:Nat)(x:Nd)(hx:KV w B d x)(hs:Sm w B d x)(w':World)(hb:Below B w w'):
  Calls Tryz.prog 164 #[.agg #[.int .u8 x.k,.int .i64 x.num,.string x.nm,.slice x.A x.n x.cap]] w' fun en w''=>(∃v b,en=.returned (.tuple #[.int .i64 v,.bool b]))∧Below w'.heap.size w' w'':=by
 have HE:=aA (fun W hW=>sS bG x hx W hW);have Tm:=aA (fun(h:j8 w B x=true) W hW=>by obtain⟨e,he⟩:=mP h;exact MH bG d x hx hs e he W hW);have HB:=aA hb;obtain⟨r,hr⟩:∃r,j8 w B x=r:=⟨_,rfl⟩;rw[hr]at HE Tm;obtain⟨k,num,nm,AX,n,cap⟩:=x;clear hx hs hb hr;dsimp only at *;go_enter Tryz.func164,Tryz.ntmps164;go_upto_region 1 with fail;refine aB ?_;intro w1 aF;have aG:Below w'.heap.size w' w1:=by rw[aF];go_grown
 have K1:Blk w1 w'.heap.size 26 #[.int .u8 k,.int .i64 num,.string nm,.slice AX n cap]:=by rw[aF];exact aQ
 have aO:=aA aG;have a9:=aA K1;clear aF aG;obtain⟨aL,aJ,aK⟩:=K1.open_;clear K1;go_wp2_with fail;refine(HE.out w1 (HB.out.trans (aO.out.mono (by have:=HB.out.size;omega)))).mono ?_;rintro en w2 ⟨rfl,hb2⟩;have aP:=aA (aO.out.next hb2);have EP:=aA (a9.out.next hb2);clear hb2 aL aJ aK;cases r with
 |false=>
  go_wp2_with fail;refine bodyPost_ret_by (results_tmp2 rfl _ _ _) rfl ?_;exact⟨⟨0,false,rfl⟩,aP.out⟩
 |true=>
  obtain⟨aL,aJ,aK⟩:=EP.out.open_;go_wp2_with fail;refine(Tm.out (by trivial) w2 (HB.out.trans (aP.out.mono (by have:=HB.out.size;omega)))).mono ?_;rintro en w3 ⟨⟨f,rfl,_⟩,aT⟩;have bD:=aA (aP.out.next aT);clear aT aL aJ aK;go_upto_region 4 with fail;refine aB ?_;intro w4 qI;have bV:Below w3.heap.size w3 w4:=by rw[qI];go_grown
  have K4:Blk w4 w3.heap.size 213 #[.int .u8 f.y.k,.int .i64 f.y.num,.string f.y.nm,.slice f.y.A f.y.n f.y.cap,.int .i64 f.v,.bool f.b]:=by rw[qI];exact aQ
  have dQ:=aA (bD.out.next bV);clear qI bV;obtain⟨tE,s9,s6⟩:=K4.open_;clear K4;go_quiet (fail);go_wp2_with fail;refine bodyPost_ret_by (results_tmp2 rfl _ _ _) rfl ?_;exact⟨⟨_,_,rfl⟩,dQ.out.trans (Below.drewN_ _ _ _ (by have:=dQ.out.size;omega))⟩
theorem o9{w:World}{B:Nat}(bG:B<=w.heap.size)(d:Nat)(x:Nd)(hx:KV w B d x)(hs:Sm w B d x)(w':World)(hb:Below B w w'):
  Calls Tryz.prog 146 #[.agg #[.int .u8 x.k,.int .i64 x.num,.string x.nm,.slice x.A x.n x.cap]] w' fun en w''=>(∃b,en=.returned (.bool b))∧Below w'.heap.size w' w'':=by
 have HE:=aA (fun W hW=>UA bG d x hx hs W hW);have HB:=aA hb;obtain⟨k,num,nm,AX,n,cap⟩:=x;clear hx hs hb;dsimp only at *;go_enter Tryz.func146,Tryz.ntmps146;go_upto_region 1 with fail;refine aB ?_;intro w1 aF;have aG:Below w'.heap.size w' w1:=by rw[aF];go_grown
 have K1:Blk w1 w'.heap.size 26 #[.int .u8 k,.int .i64 num,.string nm,.slice AX n cap]:=by rw[aF];exact aQ
 have aO:=aA aG;clear aF aG;obtain⟨aL,aJ,aK⟩:=K1.open_;clear K1;go_wp2_with fail;refine(HE.out w1 (HB.out.trans (aO.out.mono (by have:=HB.out.size;omega)))).mono ?_;rintro en w2 ⟨⟨v,b,rfl⟩,hb2⟩;go_wp2_with fail;go_ret;exact⟨⟨b,rfl⟩,aO.out.next hb2⟩
theorem Fg(y z:Nd)(b:Nat)(w:World)(hb:Blk w b 26 #[.int .u8 z.k,.int .i64 z.num,.string z.nm,.slice z.A z.n z.cap]):Calls Tryz.prog 145 #[.agg #[.int .u8 y.k,.int .i64 y.num,.string y.nm,.slice y.A y.n y.cap],.pointer (some ⟨b,0,none⟩)] w fun en w'=>en=.returned (.bool (y.nm.toList==z.nm.toList))∧Below w.heap.size w w':=by
 go_enter Tryz.func145,Tryz.ntmps145;go_upto_region 1 with fail;refine aB ?_;intro w1 aF;have aG:Below w.heap.size w w1:=by rw[aF];go_grown
 have K1:Blk w1 w.heap.size 26 #[.int .u8 y.k,.int .i64 y.num,.string y.nm,.slice y.A y.n y.cap]:=by rw[aF];exact aQ
 have K2:=hb.next aG;have aO:=aA aG;clear aF aG hb;obtain⟨aL,aJ,aK⟩:=K1.open_;obtain⟨eL,eC,eF⟩:=K2.open_;clear K1 K2;go_wp2_with fail;go_ret;exact⟨rfl,aO.out⟩
theorem Fd{w:World}{B d:Nat}(bG:B<=w.heap.size)(x:Nd)(hx:KV w B (d+1) x)(j cj:Nat)(hj:j<=x.n)(hn:x.n<=10000)(z:Nd)(b:Nat)(w':World)(hb:Below B w w')(hz:Blk w' b 26 #[.int .u8 z.k,.int .i64 z.num,.string z.nm,.slice z.A z.n z.cap]):
  Calls Tryz.prog 163 #[.slice x.A j cj,.func (.func 145) #[] #[.pointer (some ⟨b,0,none⟩)]] w' fun en w''=>(∃r:Int,en=.returned (.int .i64 r)∧(r<0->∀i y,i<j->Kid w B x i y->(y.nm.toList==z.nm.toList)=false))∧Below w'.heap.size w' w'':=by
 obtain⟨_,_,_,_,_,dE⟩:=hx;have HK:=aA dE;have HB:=aA hb;have HZ:=aA hz;have H1:=aA (fun y W hW=>Fg y z b W hW);obtain⟨k,num,nm,A,n,cap⟩:=x;clear dE hb hz;dsimp only at *;go_enter Tryz.func163,Tryz.ntmps163;go_wp2_with fail
 go_loopw [8] (fun v8 wr=>∃i:Nat,i<=j∧v8=.int .i64 i∧(∀q y,q<i->Kid w B ⟨k,num,nm,A,n,cap⟩ q y->(y.nm.toList==z.nm.toList)=false)∧Below w'.heap.size w' wr) (fun v _=>j-(intOf v).toNat)
 case atStart=>exact⟨0,fI _,rfl,fun q y hq=>absurd hq (Nat.not_lt_zero _),aM _ _⟩
 case round=>
  obtain⟨i,hi,rfl,fQ,cF⟩:=hrel;have gO:=aA fQ;have cG:=aA cF;clear fQ cF;by_cases yM:i<j
  ·obtain⟨y,cS,_⟩:=HK.out i (by omega)
   have gE:=aA cS;obtain⟨g,o,eY,cR,c0,c1,c2,c3⟩:=cS.cells (HB.out.trans (cG.out.mono (by have:=HB.out.size;omega)));simp only at eY;subst eY;have j0:(0:Int)<=(i:Int):=by omega
   have j1:(i:Int)<(j:Int):=by omega
   clear cS;go_wp2_with fail;refine(H1.out y wr (HZ.out.next cG.out)).mono ?_;rintro en w2 ⟨rfl,hb2⟩;have aP:=aA (cG.out.next hb2);obtain⟨r,hr⟩:∃r,(y.nm.toList==z.nm.toList)=r:=⟨_,rfl⟩;have HR:=aA hr;rw[hr];clear hb2 hr c0 c1 c2 c3;cases r with
   |true=>
    go_wp2_with fail;go_ret;exact⟨⟨i,rfl,fun h=>by omega⟩,aP.out⟩
   |false=>
    go_wp2_with fail;refine⟨⟨i+1,by omega,by go_num,fun q y' hq hk=>?_,aP.out⟩,by simp[intOf];omega⟩;rcases Nat.lt_or_ge q i with h|h
    ·exact gO.out q y' h hk
    ·obtain rfl:q=i:=by omega
     obtain rfl:=Kid.one gE.out hk;exact HR.out
  ·obtain rfl:i=j:=by omega
   go_wp2_with fail;go_ret;exact⟨⟨-1,rfl,fun _ q y hq hk=>gO.out q y hq hk⟩,cG.out⟩
theorem UH{w:World}{B d:Nat}(bG:B<=w.heap.size)(x:Nd)(hx:KV w B (d+1) x)(j cj:Nat)(hj:j<=x.n)(hn:x.n<=10000)(z:Nd)(b:Nat)(w':World)(hb:Below B w w')(hz:Blk w' b 26 #[.int .u8 z.k,.int .i64 z.num,.string z.nm,.slice z.A z.n z.cap]):
  Calls Tryz.prog 144 #[.slice x.A j cj,.func (.func 145) #[] #[.pointer (some ⟨b,0,none⟩)]] w' fun en w''=>(∃r:Bool,en=.returned (.bool r)∧(r=false->∀i y,i<j->Kid w B x i y->(y.nm.toList==z.nm.toList)=false))∧Below w'.heap.size w' w'':=by
 have HX:=aA (Fd bG x hx j cj hj hn z b w' hb hz);clear hx hb hz;go_enter Tryz.func144,Tryz.ntmps144;go_wp2_with fail;refine HX.out.mono ?_;rintro en w2 ⟨⟨r,rfl,hr⟩,hb2⟩;have HR:=aA hr;have aP:=aA hb2;clear hr hb2;go_wp2_with fail;go_ret;exact⟨⟨_,rfl,fun h=>HR.out (by simpa using h)⟩,aP.out⟩
end Go.Proofs.YtakfdnnlhjhcfaaGreatDoor
