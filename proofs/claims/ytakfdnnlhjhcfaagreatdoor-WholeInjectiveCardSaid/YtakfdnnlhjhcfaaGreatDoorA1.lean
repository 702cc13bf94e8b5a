/- Part of the proof. -/
import Derived.Test.YtakfdnnlhjhcfaaGreatDoorProg
import Derived.Laws.Strings
import Derived.Lib.Strings
import Derived.Lib.Bytealg
import Derived.Lib.Walk
import Derived.Deep.MidRow
import Derived.Test.YtakfdnnlhjhcfaaGreatDoorA0
set_option linter.unusedVariables false
set_option linter.unusedSimpArgs false
set_option maxRecDepth 100000
namespace Go.Proofs.YtakfdnnlhjhcfaaGreatDoor
open Go.RowKit Bk
theorem kM(c:Int)(w:World):Calls Tryz.prog 84 #[.int .u8 c] w fun e w'=>e=.returned (.bool (decide (97<=c)&&decide (c<=122)))∧w'=w:=by
 go_enter Tryz.func84,Tryz.ntmps84;go_wp2_with fail
 all_goals go_ret
 all_goals exact⟨by simp_all<;>omega,rfl⟩
theorem jO(c:Int)(w:World):Calls Tryz.prog 87 #[.int .u8 c] w fun e w'=>e=.returned (.bool (decide (48<=c)&&decide (c<=57)))∧w'=w:=by
 go_enter Tryz.func87,Tryz.ntmps87;go_wp2_with fail
 all_goals go_ret
 all_goals exact⟨by simp_all<;>omega,rfl⟩
theorem DB(c:Int)(w:World):Calls Tryz.prog 88 #[.int .u8 c] w fun e w'=>∃b,e=.returned (.bool b)∧w'=w:=by
 go_enter Tryz.func88,Tryz.ntmps88;go_wp2_with fail
 all_goals go_ret
 all_goals exact⟨_,rfl,rfl⟩
theorem vF(c:Int)(w:World):Calls Tryz.prog 86 #[.int .u8 c] w fun e w'=>e=.returned (.bool ((decide (97<=c)&&decide (c<=122))||(decide (48<=c)&&decide (c<=57))))∧w'=w:=by
 obtain⟨p,hp⟩:∃p,(decide (97<=c)&&decide (c<=122))=p:=⟨_,rfl⟩;have h1:=fun w=>kM c w
 rw[hp]at h1⊢;cases p
 ·go_enter Tryz.func86,Tryz.ntmps86
  go_wp2_with (first|(go_at_call 84;((with_reducible refine(h1 _).mono ?_);rintro e w' ⟨rfl,rfl⟩))|(go_at_call 87;((with_reducible refine(jO c _).mono ?_);rintro e w' ⟨rfl,rfl⟩)))
  all_goals go_ret
  all_goals exact⟨by simp,rfl⟩
 ·go_enter Tryz.func86,Tryz.ntmps86
  go_wp2_with (first|(go_at_call 84;((with_reducible refine(h1 _).mono ?_);rintro e w' ⟨rfl,rfl⟩))|(go_at_call 87;((with_reducible refine(jO c _).mono ?_);rintro e w' ⟨rfl,rfl⟩)))
  all_goals go_ret
  all_goals exact⟨by simp,rfl⟩
theorem Ff(c:Int)(w:World):Calls Tryz.prog 89 #[.int .u8 c] w fun e w'=>∃b,e=.returned (.bool b)∧w'=w:=by
 go_enter Tryz.func89,Tryz.ntmps89;go_wp2_with fail
 all_goals go_ret
 all_goals exact⟨_,rfl,rfl⟩
def EF(c:Int):Bool:=(decide (97<=c)&&decide (c<=122))||(decide (48<=c)&&decide (c<=57))
def nE(s:ByteArray):Bool:=s.data.toList.all fun c=>EF (c.toNat:Int)
theorem wN(s:ByteArray):nE s=true↔∀i(h:i<s.size),EF (s[i].toNat:Int)=true:=by
 unfold nE;rw[List.all_eq_true];constructor
 ·intro h i hi
  exact h _ (by show s.data[i]∈_;exact Array.getElem_mem_toList _)
 ·intro h c hc
  obtain⟨i,hi,e⟩:=List.getElem_of_mem hc;have:=h i (by simpa using hi);rw[<-e];exact this
theorem VF(s:ByteArray)(hs:s.size<=16)(w:World):Calls Tryz.prog 85 #[.string s,.func (.func 86) #[] #[]] w fun e w'=>∃n:Int,e=.returned (.int .i64 n)∧(n==(s.size:Int))=nE s∧w'=w:=by
 go_enter Tryz.func85,Tryz.ntmps85;go_wp2_with fail
 go_loopw [8] (fun v8 wr=>∃j:Nat,j<=s.size∧v8=.int .i64 j∧(∀i(h:i<s.size),i<j->EF (s[i].toNat:Int)=true)∧wr=w) (fun v _=>s.size-(intOf v).toNat)
 case atStart=>exact⟨0,fI _,rfl,fun i h hi=>absurd hi (Nat.not_lt_zero _),rfl⟩
 case round=>
  obtain⟨j,hj,rfl,jC,rfl⟩:=hrel;have HP:=aA jC;clear jC;by_cases eI:j<s.size
  ·have j1:(j:Int)<(s.size:Int):=by omega
   have j0:(0:Int)<=(j:Int):=by omega
   have hw:=fun w=>vF (s[j].toNat:Int) w
   obtain⟨b,hb⟩:∃b,EF (s[j].toNat:Int)=b:=⟨_,rfl⟩;have gX:((decide (97<=(s[j].toNat:Int))&&decide ((s[j].toNat:Int)<=122))||(decide (48<=(s[j].toNat:Int))&&decide ((s[j].toNat:Int)<=57)))=b:=hb;rw[gX]at hw;have HB:=aA hb;have X2:=aA hw;clear hb gX hw;cases b
   ·go_wp2_with fail
    refine(X2.out _).mono ?_;rintro e w' ⟨rfl,rfl⟩;go_wp2_with fail;go_ret;refine⟨_,rfl,?_,rfl⟩;have hf:nE s=false:=by
     cases h:nE s with
     |false=>rfl
     |true=>have:=(wN s).1 h j eI;rw[HB.out]at this;cases this
    rw[hf];simp;omega
   ·go_wp2_with fail
    refine(X2.out _).mono ?_;rintro e w' ⟨rfl,rfl⟩;go_wp2_with fail;exact⟨⟨j+1,by omega,by go_num,fun i h hi=>(Nat.lt_succ_iff_lt_or_eq.1 hi).elim (fun h1=>HP.out i h h1) (fun h1=>by subst h1;exact HB.out),by trivial⟩,by simp[intOf];omega⟩
  ·obtain rfl:j=s.size:=by omega
   go_wp2_with fail;go_ret;refine⟨_,rfl,?_,rfl⟩;rw[(wN s).2 fun i h=>HP.out i h h];simp
theorem VG(s:ByteArray)(hs:s.size<=16)(w:World):Calls Tryz.prog 85 #[.string s,.func (.func 87) #[] #[]] w fun e w'=>∃n:Int,e=.returned (.int .i64 n)∧w'=w:=by
 have X2:Hid (∀c w,Calls Tryz.prog 87 #[.int .u8 c] w fun e w'=>∃b,e=.returned (.bool b)∧w'=w):=aA (fun c w=>(jO c w).mono fun e w' h=>⟨_,h⟩);go_enter Tryz.func85,Tryz.ntmps85;go_wp2_with fail
 go_loopw [8] (fun v8 wr=>∃j:Nat,j<=s.size∧v8=.int .i64 j∧wr=w) (fun v _=>s.size-(intOf v).toNat)
 case atStart=>exact⟨0,fI _,rfl,rfl⟩
 case round=>
  obtain⟨j,hj,rfl,rfl⟩:=hrel;by_cases eI:j<s.size
  ·have j1:(j:Int)<(s.size:Int):=by omega
   have j0:(0:Int)<=(j:Int):=by omega
   go_wp2_with fail;refine(X2.out _ _).mono ?_;rintro e w' ⟨b,rfl,rfl⟩;cases b
   ·go_wp2_with fail
    go_ret;exact⟨_,rfl,rfl⟩
   ·go_wp2_with fail
    exact⟨⟨j+1,by omega,by go_num,by trivial⟩,by simp[intOf];omega⟩
  ·obtain rfl:j=s.size:=by omega
   go_wp2_with fail;go_ret;exact⟨_,rfl,rfl⟩
theorem VH(s:ByteArray)(hs:s.size<=16)(w:World):Calls Tryz.prog 85 #[.string s,.func (.func 88) #[] #[]] w fun e w'=>∃n:Int,e=.returned (.int .i64 n)∧w'=w:=by
 have X2:Hid (∀c w,Calls Tryz.prog 88 #[.int .u8 c] w fun e w'=>∃b,e=.returned (.bool b)∧w'=w):=aA (DB);go_enter Tryz.func85,Tryz.ntmps85;go_wp2_with fail
 go_loopw [8] (fun v8 wr=>∃j:Nat,j<=s.size∧v8=.int .i64 j∧wr=w) (fun v _=>s.size-(intOf v).toNat)
 case atStart=>exact⟨0,fI _,rfl,rfl⟩
 case round=>
  obtain⟨j,hj,rfl,rfl⟩:=hrel;by_cases eI:j<s.size
  ·have j1:(j:Int)<(s.size:Int):=by omega
   have j0:(0:Int)<=(j:Int):=by omega
   go_wp2_with fail;refine(X2.out _ _).mono ?_;rintro e w' ⟨b,rfl,rfl⟩;cases b
   ·go_wp2_with fail
    go_ret;exact⟨_,rfl,rfl⟩
   ·go_wp2_with fail
    exact⟨⟨j+1,by omega,by go_num,by trivial⟩,by simp[intOf];omega⟩
  ·obtain rfl:j=s.size:=by omega
   go_wp2_with fail;go_ret;exact⟨_,rfl,rfl⟩
theorem VI(s:ByteArray)(hs:s.size<=16)(w:World):Calls Tryz.prog 85 #[.string s,.func (.func 89) #[] #[]] w fun e w'=>∃n:Int,e=.returned (.int .i64 n)∧w'=w:=by
 have X2:Hid (∀c w,Calls Tryz.prog 89 #[.int .u8 c] w fun e w'=>∃b,e=.returned (.bool b)∧w'=w):=aA (Ff);go_enter Tryz.func85,Tryz.ntmps85;go_wp2_with fail
 go_loopw [8] (fun v8 wr=>∃j:Nat,j<=s.size∧v8=.int .i64 j∧wr=w) (fun v _=>s.size-(intOf v).toNat)
 case atStart=>exact⟨0,fI _,rfl,rfl⟩
 case round=>
  obtain⟨j,hj,rfl,rfl⟩:=hrel;by_cases eI:j<s.size
  ·have j1:(j:Int)<(s.size:Int):=by omega
   have j0:(0:Int)<=(j:Int):=by omega
   go_wp2_with fail;refine(X2.out _ _).mono ?_;rintro e w' ⟨b,rfl,rfl⟩;cases b
   ·go_wp2_with fail
    go_ret;exact⟨_,rfl,rfl⟩
   ·go_wp2_with fail
    exact⟨⟨j+1,by omega,by go_num,by trivial⟩,by simp[intOf];omega⟩
  ·obtain rfl:j=s.size:=by omega
   go_wp2_with fail;go_ret;exact⟨_,rfl,rfl⟩
theorem MI(s p:ByteArray)(hp:p.size<=16)(hs:s.size<=16)(w:World):Calls Tryz.prog 118 #[.string s,.string p] w fun e w'=>∃b,e=.returned (.bool b)∧w'=w:=by
 have h:∀w,Calls Tryz.prog 151 #[.string s,.string p] w fun e w'=>∃b,e=.returned (.bool b)∧w'=w:=fun w=>by
  by_cases hl:p.size<=s.size
  ·have oS:(p.size:Int)<=(s.size:Int):=by omega
   have h0:(0:Int)<=(p.size:Int):=by omega
   go_enter Tryz.func151,Tryz.ntmps151;go_wp2_with fail
   all_goals go_ret
   all_goals exact⟨_,rfl,rfl⟩
  ·have oS:decide ((p.size:Int)<=(s.size:Int))=false:=by simp;omega
   go_enter Tryz.func151,Tryz.ntmps151;go_wp2_with fail
   all_goals go_ret
   all_goals exact⟨_,rfl,rfl⟩
 go_enter Tryz.func118,Tryz.ntmps118;go_wp2_with fail;refine(h _).mono ?_;rintro e w' ⟨b,rfl,rfl⟩;go_wp2_with fail;go_ret;exact⟨_,rfl,rfl⟩
theorem M0(s:ByteArray)(c:Int)(w:World):Calls Tryz.prog 119 #[.string s,.int .u8 c] w fun e w'=>∃n,e=.returned (.int .i64 n)∧w'=w:=by
 have h:∀w,Calls Tryz.prog 152 #[.string s,.int .u8 c] w fun e w'=>∃n,e=.returned (.int .i64 n)∧w'=w:=fun w=>by
  go_enter Tryz.func152,Tryz.ntmps152;go_wp2;rw[run_callFunc_extern Tryz.func173 (by kernel_rfl) (by kernel_rfl) (by kernel_rfl) (e:=Extern.BytealgIndexByte.indexByte) (by kernel_rfl),Lib.run_indexByteString];simp only[Result.andThen];rw[Oper.upon_value];go_wp2;go_ret;exact⟨_,rfl,rfl⟩
 go_enter Tryz.func119,Tryz.ntmps119;go_wp2_with fail;refine(h _).mono ?_;rintro e w' ⟨b,rfl,rfl⟩;go_wp2_with fail;go_ret;exact⟨_,rfl,rfl⟩
theorem Fj(s:ByteArray)(hs:1<=s.size)(hs':s.size<=16)(w:World):Calls Tryz.prog 90 #[.string s] w fun e w'=>∃n:Int,e=.returned (.int .i64 n)∧w'=w:=by
 obtain⟨k,hk⟩:∃k:Nat,min (2:Int) (s.size:Int)=(k:Int):=⟨min 2 s.size,by omega⟩;have h0:(0:Int)<=(k:Int):=by omega
 have h1:(k:Int)<=(s.size:Int):=by omega
 have h2:(0:Int)<(s.size:Int):=by omega
 go_enter Tryz.func90,Tryz.ntmps90;go_wp2_with fail;refine(MI s _ (by decide) hs' _).mono ?_;rintro e w' ⟨b,rfl,rfl⟩;cases b
 ·go_wp2_with (first|(go_at_call 119;((with_reducible refine(M0 _ _ _).mono ?_);rintro e w' ⟨b,rfl,rfl⟩)))
  all_goals go_ret
  all_goals first|exact⟨_,rfl,rfl⟩|exact⟨⟨_,rfl⟩,rfl⟩
 ·go_wp2_with fail
  go_ret;exact⟨_,rfl,rfl⟩
def kws:List ByteArray:= [⟨#[115,105,122,101]⟩,⟨#[116,111,112]⟩,⟨#[100,101,108,111,99,97,108]⟩,⟨#[108,111,99,97,108]⟩,⟨#[117,110,116,105,108]⟩,⟨#[108,111,111,112]⟩,⟨#[102,114,111,109]⟩,⟨#[102,105]⟩,⟨#[101,108,115,101]⟩,⟨#[105,102]⟩,⟨#[117,110,99,97,108,108]⟩,⟨#[99,97,108,108]⟩,⟨#[117,110,119,114,105,116,101]⟩,⟨#[119,114,105,116,101]⟩,⟨#[117,110,114,101,97,100]⟩,⟨#[114,101,97,100]⟩,⟨#[112,111,112]⟩,⟨#[112,117,115,104]⟩,⟨#[109,97,105,110]⟩,⟨#[112,114,111,99]⟩,⟨#[115,116,97,99,107]⟩,⟨#[97,114,114,97,121]⟩,⟨#[105,110,116]⟩]
def WI(s:ByteArray):Bool:=decide (2<=s.size)&&decide (s.size<=7)&&kws.contains s
theorem IE(w:World):(zeroValue 4).run Tryz.prog w=.ok (.bool false) w:=by kernel_rfl
theorem WJ(s:ByteArray)(b:Bool)(h:b=true↔s∈kws):b=kws.contains s:=by
 rw[Bool.eq_iff_iff,h];simp[List.contains_iff_exists_mem_beq,Go.MapKept.bytes_beq]
theorem FZ(s:ByteArray)(w:World):Calls Tryz.prog 52 #[.string s] w fun e w'=>e=.returned (.bool (WI s))∧Below w.heap.size w w':=by
 by_cases h1:s.size<2
 ·have e:WI s=false:=by unfold WI;rw[decide_eq_false (by omega)];rfl
  rw[e];have yI:(s.size:Int)<2:=by omega
  go_enter Tryz.func52,Tryz.ntmps52;go_wp2_with fail;go_ret;exact⟨rfl,by go_grown⟩
 have yI:decide ((s.size:Int)<2)=false:=by simp;omega
 by_cases h2:7<s.size
 ·have e:WI s=false:=by unfold WI;rw[decide_eq_false (p:=s.size<=7) (by omega)];simp
  rw[e];have h2':7<(s.size:Int):=by omega
  go_enter Tryz.func52,Tryz.ntmps52;go_wp2_with fail;go_ret;exact⟨rfl,by go_grown⟩
 have h2':decide (7<(s.size:Int))=false:=by simp;omega
 have e:WI s=kws.contains s:=by unfold WI;rw[decide_eq_true (by omega),decide_eq_true (by omega)];rfl
 rw[e];clear e;go_enter Tryz.func52,Tryz.ntmps52;go_upto_region 3 with fail;refine wp_region_lit ?_;refine CC rfl 151 rfl ?_;intro w1 hk;simp only[Act.put,PU]
 iterate 23 (refine T6 rfl 151 _ _ _ rfl 9 4 Tryz.underlying151 Tryz.underlying9 w.heap.size rfl _ rfl rfl hk ?_;clear hk;intro w1 hk;simp only[Act.put])
 go_wp2_with (refine D6 rfl 151 _ _ rfl 9 4 Tryz.underlying151 Tryz.underlying9 (IE _) w.heap.size rfl s rfl hk ?_;intro b mQ);go_ret;exact⟨by rw[WJ s b mQ];rfl,hk.2⟩
def aS(s:ByteArray):Bool:=decide (1<=s.size)&&decide (s.size<=16)&&(s.data.toList.head?.any fun c=>decide (97<=(c.toNat:Int))&&decide ((c.toNat:Int)<=122))&&nE s&&!WI s
theorem UN(s:ByteArray)(h0:1<=s.size)(YX:s.size<=16)(w:World):Calls Tryz.prog 51 #[.string s] w fun e w'=>∃(k n:Int),e=.returned (.tuple #[.int .u8 k,.int .i64 n])∧((k==1)&&(n==(s.size:Int)))=((s.data.toList.head?.any fun c=>decide (97<=(c.toNat:Int))&&decide ((c.toNat:Int)<=122))&&nE s)∧w'=w:=by
 have hz:(0:Int)<(s.size:Int):=by omega
 have hh:s.data.toList.head?=some (s[0]'(by omega)):=by
  obtain⟨⟨l⟩⟩:=s;cases l with
  |nil=>simp[ByteArray.size]at h0
  |cons a l=>rfl
 rw[hh];have hl:=fun w=>kM ((s[0]'(by omega)).toNat:Int) w
 have hd:=fun w=>jO ((s[0]'(by omega)).toNat:Int) w
 simp only[Option.any_some];obtain⟨b,hb⟩:∃b,(decide ((97:Int)<=((s[0]'(by omega)).toNat:Int))&&decide (((s[0]'(by omega)).toNat:Int)<=122))=b:=⟨_,rfl⟩;rw[hb]at hl⊢;obtain⟨b2,hb2⟩:∃b,(decide ((48:Int)<=((s[0]'(by omega)).toNat:Int))&&decide (((s[0]'(by omega)).toNat:Int)<=57))=b:=⟨_,rfl⟩;rw[hb2]at hd;have HL:=aA hl;have HD:=aA hd;clear hb hb2 hl hd hh;cases b
 ·go_enter Tryz.func51,Tryz.ntmps51
  go_wp2_with fail;refine(HL.out _).mono ?_;rintro e w' ⟨rfl,rfl⟩;go_wp2_with fail;refine(HD.out _).mono ?_;rintro e w' ⟨rfl,rfl⟩;cases b2
  ·go_wp2_with fail
   refine(DB _ _).mono ?_;rintro e w' ⟨b3,rfl,rfl⟩;cases b3
   ·go_wp2_with (first|(go_at_call 85;((with_reducible refine(VI _ YX _).mono ?_);rintro e w' ⟨n,rfl,rfl⟩))|(go_at_call 90;((with_reducible refine(Fj _ h0 YX _).mono ?_);rintro e w' ⟨n,rfl,rfl⟩)))
    all_goals go_ret2
    all_goals exact⟨_,_,rfl,by simp,rfl⟩
   ·go_wp2_with fail
    refine(VH _ YX _).mono ?_;rintro e w' ⟨n,rfl,rfl⟩;go_wp2_with fail
    go_ret2
    exact⟨_,_,rfl,by simp,rfl⟩
  ·go_wp2_with fail
   refine(VG _ YX _).mono ?_;rintro e w' ⟨n,rfl,rfl⟩;go_wp2_with fail
   go_ret2
   exact⟨_,_,rfl,by simp,rfl⟩
 ·go_enter Tryz.func51,Tryz.ntmps51
  go_wp2_with fail;refine(HL.out _).mono ?_;rintro e w' ⟨rfl,rfl⟩;go_wp2_with fail;refine(VF _ YX _).mono ?_;rintro e w' ⟨n,rfl,hn,rfl⟩;go_wp2_with fail
  go_ret2
  exact⟨_,_,rfl,by rw[hn];simp,rfl⟩
theorem zY(s:ByteArray)(w:World):Calls Tryz.prog 27 #[.string s] w fun e w'=>e=.returned (.bool (aS s))∧Below w.heap.size w w':=by
 by_cases h0:1<=s.size;rotate_left
 ·have e:aS s=false:=by unfold aS;rw[decide_eq_false h0];rfl
  have hs:s=⟨#[]⟩:=by obtain⟨⟨l⟩⟩:=s;cases l with|nil=>rfl|cons a l=>simp[ByteArray.size]at h0
  rw[e];subst hs;go_enter Tryz.func27,Tryz.ntmps27;go_wp2_with fail;go_ret;exact⟨rfl,by go_grown⟩
 have dG:s.toList.isEmpty=false:=by
  rw[Lib.toList_data];obtain⟨⟨l⟩⟩:=s;cases l with
  |nil=>simp[ByteArray.size]at h0
  |cons a l=>rfl
 by_cases h1:s.size<=16;rotate_left
 ·have e:aS s=false:=by unfold aS;rw[decide_eq_false (p:=s.size<=16) h1];simp
  have YX:(16:Int)<(s.size:Int):=by omega
  rw[e];go_enter Tryz.func27,Tryz.ntmps27;go_wp2_with fail;go_ret;exact⟨rfl,by go_grown⟩
 have YX:decide ((16:Int)<(s.size:Int))=false:=by simp;omega
 obtain⟨c,hc⟩:∃c,((s.data.toList.head?.any fun c=>decide (97<=(c.toNat:Int))&&decide ((c.toNat:Int)<=122))&&nE s)=c:=⟨_,rfl⟩;have e:aS s=(c&&!WI s):=by unfold aS;rw[decide_eq_true h0,decide_eq_true h1,<-hc];simp[Bool.and_assoc]
 rw[e];have hf:=fun w=>UN s h0 h1 w
 rw[hc]at hf;have HF:=aA hf;clear hf e hc;go_enter Tryz.func27,Tryz.ntmps27;go_wp2_with fail;refine(HF.out _).mono ?_;rintro e w' ⟨k,n,rfl,Ji,rfl⟩;cases c
 ·rcases(show(k==1)=false∨((k==1)=true∧(n==(s.size:Int))=false) by cases h:(k==1)<;>simp_all)with q1|⟨q1,q2⟩
  ·go_wp2_with fail
   go_ret;exact⟨by simp,by go_grown⟩
  ·go_wp2_with fail
   go_ret;exact⟨by simp,by go_grown⟩
 ·have q1:(k==1)=true:=by cases h:(k==1)<;>simp_all
  have q2:(n==(s.size:Int))=true:=by cases h:(n==(s.size:Int))<;>simp_all
  go_wp2_with fail;refine(FZ s _).mono ?_;rintro e w2 ⟨rfl,hb⟩;go_wp2_with fail;go_ret;exact⟨by simp,hb⟩
end Go.Proofs.YtakfdnnlhjhcfaaGreatDoor
namespace Bk
open Go Go.RowKit
inductive Ex where
 |num (v:Int)
 |var (s:ByteArray)
 |top (s:ByteArray)
 |size (s:ByteArray)
 |item (s:ByteArray) (a:Ex)
 |un (op:Int) (a:Ex)
 |bin (op:Int) (a b:Ex)
structure Nd where
 k:Int
 num:Int
 nm:ByteArray
 A:Option Addr
 n:Nat
 cap:Nat
def Nd.cells(x:Nd):List Value:= [.int .u8 x.k,.int .i64 x.num,.string x.nm,.slice x.A x.n x.cap]
def Kid(w:World)(B:Nat)(x:Nd)(i:Nat)(y:Nd):Prop:=
 ∃g o,x.A=some ⟨g,o,none⟩∧g<B∧w.rangeAt g (o+i*4) y.cells
theorem Kid.next{w w':World}{B i:Nat}{x y:Nd}(h:Kid w B x i y)(hb:Below B w w'):Kid w' B x i y:=by
 obtain⟨g,o,h1,h2,h3⟩:=h;exact⟨g,o,h1,h2,fun j v hv=>(hb.cell (p:=⟨g,o+i*4+j,none⟩) h2).trans (h3 j v hv)⟩
theorem Kid.one{w:World}{B i:Nat}{x y z:Nd}(h:Kid w B x i y)(h':Kid w B x i z):y=z:=by
 obtain⟨g,o,h1,h2,h3⟩:=h;obtain⟨g',o',yI,h2',Uj⟩:=h';rw[h1]at yI;injection yI with yI;injection yI with e1 e2;subst e1;subst e2;have e:∀j v v',y.cells[j]?=some v->z.cells[j]?=some v'->v=v':=fun j v v' a b=>by
  have:=(h3 j v a).symm.trans (Uj j v' b);injection this
 obtain⟨k,num,nm,A,n,cap⟩:=y;obtain⟨k',num',nm',A',n',cap'⟩:=z;have c0:=e 0 _ _ rfl rfl;have c1:=e 1 _ _ rfl rfl;have c2:=e 2 _ _ rfl rfl;have c3:=e 3 _ _ rfl rfl;simp only at c0 c1 c2 c3;injection c0 with _ c0;injection c1 with _ c1;injection c2 with c2;injection c3 with c3 c4 c5;subst c0 c1 c2 c3 c4 c5;rfl
def KV(w:World)(B:Nat):Nat->Nd->Prop
 |0,_=>False
 |d+1,x=>(0<=x.k∧x.k<=255)∧(-9223372036854775808<=x.num∧x.num<=9223372036854775807)∧x.n<=x.cap∧x.cap<=maxLen∧(x.A=none->x.cap=0)∧∀i,i<x.n->∃y,Kid w B x i y∧KV w B d y
theorem KV.next{w w':World}{B:Nat}(hb:Below B w w'):∀d x,KV w B d x->KV w' B d x
 |0,_,h=>h
 |d+1,x,⟨h1,h2,h3,h4,h5,h6⟩=>⟨h1,h2,h3,h4,h5,fun i hi=>let ⟨y,h7,h8⟩:=h6 i hi;⟨y,h7.next hb,KV.next hb d y h8⟩⟩
def EV(w:World)(B:Nat)(aS:ByteArray->Bool):Ex->Nd->Prop
 |.num v,x=>x.k=1∧x.num=v∧0<=v∧x.nm.toList.isEmpty=true∧x.n=0
 |.var s,x=>x.k=2∧x.num=0∧x.nm=s∧aS s=true∧x.n=0
 |.top s,x=>x.k=4∧x.num=0∧x.nm=s∧aS s=true∧x.n=0
 |.size s,x=>x.k=5∧x.num=0∧x.nm=s∧aS s=true∧x.n=0
 |.item s a,x=>x.k=3∧x.num=0∧x.nm=s∧aS s=true∧x.n=1∧∃y,Kid w B x 0 y∧EV w B aS a y
 |.un op a,x=>x.k=op∧(op=6∨op=7)∧x.num=0∧x.nm.toList.isEmpty=true∧x.n=1∧∃y,Kid w B x 0 y∧EV w B aS a y
 |.bin op a b,x=>x.k=op∧(8<=op∧op<=23)∧x.num=0∧x.nm.toList.isEmpty=true∧x.n=2∧∃y z,Kid w B x 0 y∧Kid w B x 1 z∧EV w B aS a y∧EV w B aS b z
theorem EV.next{w w':World}{B:Nat}{nb:ByteArray->Bool}(hb:Below B w w'):∀e x,EV w B nb e x->EV w' B nb e x:=by
 intro e
 induction e with
 |num v=>exact fun x h=>h
 |var s=>exact fun x h=>h
 |top s=>exact fun x h=>h
 |size s=>exact fun x h=>h
 |item s a ih=>exact fun x⟨h1,h2,h3,h4,h5,y,h6,h7⟩=>⟨h1,h2,h3,h4,h5,y,h6.next hb,ih y h7⟩
 |un op a ih=>exact fun x⟨h1,h2,h3,h4,h5,y,h6,h7⟩=>⟨h1,h2,h3,h4,h5,y,h6.next hb,ih y h7⟩
 |bin op a b iha ihb=>exact fun x⟨h1,h2,h3,h4,h5,y,z,h6,h7,h8,h9⟩=>⟨h1,h2,h3,h4,h5,y,z,h6.next hb,h7.next hb,iha y h8,ihb z h9⟩
end Bk
namespace Go.Proofs.YtakfdnnlhjhcfaaGreatDoor
open Go.RowKit Bk
theorem yT:(Tryz.prog.info? 26).map (fun i=>i.size)=some 4:=by kernel_rfl
theorem jP(x:Nd)(w:World):Calls Tryz.prog 123 #[.agg #[.int .u8 x.k,.int .i64 x.num,.string x.nm,.slice x.A x.n x.cap]] w fun e w'=>e=.returned (.bool (decide (x.num=0)&&aS x.nm))∧Below w.heap.size w w':=by
 obtain⟨k,num,nm,A,n,cap⟩:=x;by_cases h:num=0
 ·subst h
  go_enter Tryz.func123,Tryz.ntmps123;go_wp2_with fail;refine(zY nm _).mono ?_;rintro e w1 ⟨rfl,hb⟩;go_wp2_with fail;go_ret;exact⟨by simp,Below.trans (by go_grown) (hb.mono (by go_size))⟩
 ·have h':(num==0)=false:=by simpa using h
  go_enter Tryz.func123,Tryz.ntmps123;go_wp2_with fail;go_ret;exact⟨by simp[h],by go_grown⟩
theorem jQ(x:Nd)(w:World):Calls Tryz.prog 91 #[.agg #[.int .u8 x.k,.int .i64 x.num,.string x.nm,.slice x.A x.n x.cap]] w fun e w'=>e=.returned (.bool (decide (x.num=0)&&x.nm.toList.isEmpty))∧Below w.heap.size w w':=by
 obtain⟨k,num,nm,A,n,cap⟩:=x;by_cases h:num=0
 ·subst h
  go_enter Tryz.func91,Tryz.ntmps91;go_wp2_with fail;go_ret;exact⟨by simp,by go_grown⟩
 ·have h':(num==0)=false:=by simpa using h
  go_enter Tryz.func91,Tryz.ntmps91;go_wp2_with fail;go_ret;exact⟨by simp[h],by go_grown⟩
end Go.Proofs.YtakfdnnlhjhcfaaGreatDoor
set_option maxHeartbeats 4000000
namespace Bk
open Go Go.RowKit
def zL(w:World)(B:Nat)(nb:ByteArray->Bool)(x:Nd):Prop:=∃e,EV w B nb e x
end Bk
namespace Go.Proofs.YtakfdnnlhjhcfaaGreatDoor
open Go.RowKit Bk
theorem aB{Q:Program}{c:Code}{R:Exit->Act->World->Prop}{a:Act}{w:World}(h:∀w',w'=w->c.wp Q R a w'):c.wp Q R a w:=h w rfl
def H9(w:World)(B d:Nat):Prop:=∀x,KV w B d x->∀w',Below B w w'->∀r:Bool,(r=true↔zL w B aS x)->Calls Tryz.prog 122 #[.agg #[.int .u8 x.k,.int .i64 x.num,.string x.nm,.slice x.A x.n x.cap]] w' fun e w''=>e=.returned (.bool r)∧Below w'.heap.size w' w''
theorem z9{w:World}{B d:Nat}(bG:B<=w.heap.size)(IH:H9 w B d)(x:Nd)(hx:KV w B (d+1) x)(w':World)(hb:Below B w w')(h m:Nat)(t:TypeId)(fs:Array Value)(hf:Blk w' h t fs)(hm:fs.size=m)(hm2:m<=2)(ZH:∀i,i<m->fs[i]?=some (.func (.func 122) #[] #[]))(r:Bool)(hr:r=true↔x.n=m∧∀i,i<m->∃y,Kid w B x i y∧zL w B aS y):
  Calls Tryz.prog 120 #[.agg #[.int .u8 x.k,.int .i64 x.num,.string x.nm,.slice x.A x.n x.cap],.slice (some ⟨h,0,none⟩) m m] w' fun e w''=>e=.returned (.bool r)∧Below w'.heap.size w' w'':=by
 obtain⟨⟨hk0,rH⟩,AN,f9,mD,hA,dE⟩:=hx;obtain⟨k,num,nm,A,n,cap⟩:=x;have HK:=aA dE;have HB:=aA hb;have HF:=aA hf;have V9:=aA ZH;have HR:=aA hr;have JK:=aA IH;have eI:=hf.lt;clear dE hb hf ZH hr IH hA AN;dsimp only at *;by_cases hn:n=m;rotate_left
 ·obtain rfl:r=false:=by cases r with|false=>rfl|true=>exact absurd (HR.out.1 rfl).1 hn
  have C5:((n:Int) !=(m:Int))=true:=by simp;omega
  go_enter Tryz.func120,Tryz.ntmps120;go_wp2_with fail;go_ret;exact⟨rfl,by go_grown⟩
 have C5:((n:Int) !=(m:Int))=false:=by simp;omega
 have HN:=aA hn;clear hn;go_enter Tryz.func120,Tryz.ntmps120;go_upto_region 1 with fail;refine aB ?_;intro w1 aF;have lO:Below w'.heap.size w' w1:=by rw[aF];go_grown
 have K1:Blk w1 w'.heap.size 26 #[.int .u8 k,.int .i64 num,.string nm,.slice A n cap]:=by rw[aF];exact aQ
 clear aF;obtain⟨aL,aJ,aK⟩:=K1.open_;have tJ:=aA K1;clear K1;go_wp2_with fail;clear aJ aL aK
 go_loopw [15] (fun v15 wr=>∃j:Nat,j<=m∧v15=.int .i64 j∧(∀i,i<j->∃y,Kid w B ⟨k,num,nm,A,n,cap⟩ i y∧zL w B aS y)∧Below w1.heap.size w1 wr) (fun v _=>m-(intOf v).toNat)
 case atStart=>exact⟨0,fI _,rfl,fun i hi=>absurd hi (Nat.not_lt_zero _),aM _ _⟩
 case round=>
  obtain⟨j,hj,rfl,jC,cF⟩:=hrel;have HP:=aA jC;have cG:=aA cF;have pD:Below w'.heap.size w' wr:=lO.next cF;clear jC cF;by_cases NS:j<m
  ·obtain⟨y,cS,iW⟩:=HK.out j (by have:=HN.out;omega)
   obtain⟨g,o,eY,cR,hrg⟩:=cS.next HB.out;have gE:=aA cS;have IT:=aA iW;simp only at eY;subst eY;have vU:wr.rangeAt g (o+j*4) y.cells:=fun i v hv=>(pD.cell (p:=⟨g,o+j*4+i,none⟩) (by have:=HB.out.size;show g<_;omega)).trans (hrg i v hv)
   have c0:wr.cell? ⟨g,o+j*4,none⟩=some (.int .u8 y.k):=vU 0 _ rfl;have c1:wr.cell? ⟨g,o+j*4+1,none⟩=some (.int .i64 y.num):=vU 1 _ rfl;have c2:wr.cell? ⟨g,o+j*4+2,none⟩=some (.string y.nm):=vU 2 _ rfl;have c3:wr.cell? ⟨g,o+j*4+3,none⟩=some (.slice y.A y.n y.cap):=vU 3 _ rfl;have K2:=tJ.out.next cG.out;obtain⟨eL,eC,eF⟩:=K2.open_;have cf:wr.cell? ⟨h,j,none⟩=some (.func (.func 122) #[] #[]):=((HF.out.next pD).cell j).trans (V9.out j NS);have j0:(0:Int)<=(j:Int):=by omega
   have j1:(j:Int)<(m:Int):=by omega
   have j2:(j:Int)<(n:Int):=by have:=HN.out;omega
   clear cS iW hrg vU K2;obtain⟨r1,hr1⟩:∃r1:Bool,r1=true↔zL w B aS y:=by
    by_cases h:zL w B aS y
    ·exact⟨true,by simp[h]⟩
    ·exact⟨false,by simp[h]⟩
   have rC:=aA hr1;clear hr1;go_wp2_with fail;refine(JK.out y IT.out _ (HB.out.trans (pD.mono (by have:=HB.out.size;omega))) r1 rC.out).mono ?_;rintro e w2 ⟨rfl,hb2⟩;cases r1
   ·obtain rfl:r=false:=by
     cases r with
     |false=>rfl
     |true=>
      obtain⟨y',h1,h2⟩:=(HR.out.1 rfl).2 j NS;rw[Kid.one h1 gE.out]at h2;have:=rC.out.2 h2;cases this
    go_wp2_with fail;go_ret;exact⟨rfl,pD.next hb2⟩
   ·clear eC eL eF cf c0 c1 c2 c3
    go_wp2_with fail;exact⟨⟨j+1,by omega,by go_num,fun i hi=>(Nat.lt_succ_iff_lt_or_eq.1 hi).elim (fun h1=>HP.out i h1) (fun h1=>by subst h1;exact⟨y,gE.out,rC.out.1 (by trivial)⟩),cG.out.next hb2⟩,by simp[intOf];omega⟩
  ·obtain rfl:j=m:=by omega
   obtain rfl:r=true:=HR.out.2 ⟨HN.out,fun i hi=>HP.out i hi⟩;go_wp2_with fail;go_ret;exact⟨rfl,pD⟩
theorem P5{w:World}{B:Nat}{x:Nd}(hk:x.k=3):zL w B aS x↔(x.num=0∧aS x.nm=true)∧x.n=1∧∀i,i<1->∃y,Kid w B x i y∧zL w B aS y:=by
 constructor
 ·rintro⟨e,h⟩
  cases e with
  |item s a=>obtain⟨_,h2,h3,h4,h5,y,h6,h7⟩:=h;exact⟨⟨h2,by rw[h3];exact h4⟩,h5,fun i hi=>by have e:i=0:=(by omega);subst e;exact⟨y,h6,a,h7⟩⟩
  |num v=>have:=h.1;omega
  |var s=>have:=h.1;omega
  |top s=>have:=h.1;omega
  |size s=>have:=h.1;omega
  |un op a=>have:=h.1;have:=h.2.1;omega
  |bin op a b=>have:=h.1;have:=h.2.1;omega
 ·rintro⟨⟨h1,h2⟩,h3,h4⟩
  obtain⟨y,h5,a,h6⟩:=h4 0 (by omega);exact⟨.item x.nm a,hk,h1,rfl,h2,h3,y,h5,h6⟩
theorem C7{w:World}{B:Nat}{x:Nd}(hk:x.k=6∨x.k=7):zL w B aS x↔(x.num=0∧x.nm.toList.isEmpty=true)∧x.n=1∧∀i,i<1->∃y,Kid w B x i y∧zL w B aS y:=by
 constructor
 ·rintro⟨e,h⟩
  cases e with
  |un op a=>obtain⟨_,_,h2,h3,h5,y,h6,h7⟩:=h;exact⟨⟨h2,h3⟩,h5,fun i hi=>by have e:i=0:=(by omega);subst e;exact⟨y,h6,a,h7⟩⟩
  |num v=>have:=h.1;omega
  |var s=>have:=h.1;omega
  |top s=>have:=h.1;omega
  |size s=>have:=h.1;omega
  |item s a=>have:=h.1;omega
  |bin op a b=>have:=h.1;have:=h.2.1;omega
 ·rintro⟨⟨h1,h2⟩,h3,h4⟩
  obtain⟨y,h5,a,h6⟩:=h4 0 (by omega);exact⟨.un x.k a,rfl,hk,h1,h2,h3,y,h5,h6⟩
theorem DQ{w:World}{B:Nat}{x:Nd}(hk:8<=x.k∧x.k<=23):zL w B aS x↔(x.num=0∧x.nm.toList.isEmpty=true)∧x.n=2∧∀i,i<2->∃y,Kid w B x i y∧zL w B aS y:=by
 constructor
 ·rintro⟨e,h⟩
  cases e with
  |bin op a b=>
   obtain⟨_,_,h2,h3,h5,y,z,h6,h7,h8,h9⟩:=h;exact⟨⟨h2,h3⟩,h5,fun i hi=>by
    rcases(show i=0∨i=1 by omega)with rfl|rfl
    ·exact⟨y,h6,a,h8⟩
    ·exact⟨z,h7,b,h9⟩⟩
  |num v=>have:=h.1;omega
  |var s=>have:=h.1;omega
  |top s=>have:=h.1;omega
  |size s=>have:=h.1;omega
  |item s a=>have:=h.1;omega
  |un op a=>have:=h.1;have:=h.2.1;omega
 ·rintro⟨⟨h1,h2⟩,h3,h4⟩
  obtain⟨y,h5,a,h6⟩:=h4 0 (by omega);obtain⟨z,h7,b,h8⟩:=h4 1 (by omega);exact⟨.bin x.k a b,rfl,hk,h1,h2,h3,y,z,h5,h7,h6,h8⟩
theorem vY{w:World}{B:Nat}{x:Nd}(hk:x.k=2∨x.k=4∨x.k=5):zL w B aS x↔(x.num=0∧aS x.nm=true)∧x.n=0:=by
 constructor
 ·rintro⟨e,h⟩
  cases e with
  |var s=>obtain⟨_,h2,h3,h4,h5⟩:=h;exact⟨⟨h2,by rw[h3];exact h4⟩,h5⟩
  |top s=>obtain⟨_,h2,h3,h4,h5⟩:=h;exact⟨⟨h2,by rw[h3];exact h4⟩,h5⟩
  |size s=>obtain⟨_,h2,h3,h4,h5⟩:=h;exact⟨⟨h2,by rw[h3];exact h4⟩,h5⟩
  |num v=>have:=h.1;omega
  |item s a=>have:=h.1;omega
  |un op a=>have:=h.1;have:=h.2.1;omega
  |bin op a b=>have:=h.1;have:=h.2.1;omega
 ·rintro⟨⟨h1,h2⟩,h3⟩
  rcases hk with hk|hk|hk
  ·exact⟨.var x.nm,hk,h1,rfl,h2,h3⟩
  ·exact⟨.top x.nm,hk,h1,rfl,h2,h3⟩
  ·exact⟨.size x.nm,hk,h1,rfl,h2,h3⟩
theorem WG{w:World}{B:Nat}{x:Nd}(hk:x.k=1):zL w B aS x↔0<=x.num∧x.nm.toList.isEmpty=true∧x.n=0:=by
 constructor
 ·rintro⟨e,h⟩
  cases e with
  |num v=>obtain⟨_,h2,h3,h4,h5⟩:=h;exact⟨by omega,h4,h5⟩
  |var s=>have:=h.1;omega
  |top s=>have:=h.1;omega
  |size s=>have:=h.1;omega
  |item s a=>have:=h.1;omega
  |un op a=>have:=h.1;have:=h.2.1;omega
  |bin op a b=>have:=h.1;have:=h.2.1;omega
 ·rintro⟨h1,h2,h3⟩
  exact⟨.num x.num,hk,rfl,h1,h2,h3⟩
theorem P6{w:World}{B:Nat}{x:Nd}(hk:x.k<1∨23<x.k):¬zL w B aS x:=by
 rintro⟨e,h⟩;cases e with
 |un op a=>have:=h.1;have:=h.2.1;omega
 |bin op a b=>have:=h.1;have:=h.2.1;omega
 |num v=>have:=h.1;omega
 |var s=>have:=h.1;omega
 |top s=>have:=h.1;omega
 |size s=>have:=h.1;omega
 |item s a=>have:=h.1;omega
theorem uZ{w:World}{B:Nat}(bG:B<=w.heap.size):∀d,H9 w B d
 |0=>fun x h=>h.elim
 |d+1=>fun x hx w' hb r hr=>by
  have IH:=uZ bG d;have HX:=aA hx;have HB:=aA hb;have HR:=aA hr;have JK:=aA IH;have hk:=hx.1;obtain⟨k,num,nm,A,n,cap⟩:=x;dsimp only at hk;clear hx hb hr IH;dsimp only;rcases(show k<1∨23<k∨k=1∨k=2∨k=4∨k=5∨k=3∨k=6∨k=7∨(8<=k∧k<=23) by omega)with h|h|rfl|rfl|rfl|rfl|rfl|rfl|rfl|⟨h8,Pa⟩
  ·obtain rfl:r=false:=by cases r with|false=>rfl|true=>exact absurd (HR.out.1 rfl) (P6 (.inl h))
   have q1:(k==1)=false:=by simp;omega
   have q2:(k==2)=false:=by simp;omega
   have q3:(k==3)=false:=by simp;omega
   have q4:(k==4)=false:=by simp;omega
   have q5:(k==5)=false:=by simp;omega
   have q6:(k==6)=false:=by simp;omega
   have q7:(k==7)=false:=by simp;omega
   have q8:decide (8<=k)=false:=by simp;omega
   go_enter Tryz.func122,Tryz.ntmps122;go_wp2_with fail;go_ret;exact⟨rfl,by go_grown⟩
  ·obtain rfl:r=false:=by cases r with|false=>rfl|true=>exact absurd (HR.out.1 rfl) (P6 (.inr h))
   have q1:(k==1)=false:=by simp;omega
   have q2:(k==2)=false:=by simp;omega
   have q3:(k==3)=false:=by simp;omega
   have q4:(k==4)=false:=by simp;omega
   have q5:(k==5)=false:=by simp;omega
   have q6:(k==6)=false:=by simp;omega
   have q7:(k==7)=false:=by simp;omega
   have q8:decide (8<=k)=true:=by simp;omega
   have q9:decide (k<=23)=false:=by simp;omega
   go_enter Tryz.func122,Tryz.ntmps122;go_wp2_with fail;go_ret;exact⟨rfl,by go_grown⟩
  ·have kF:r=(decide (0<=num)&&nm.toList.isEmpty&&decide (n=0)):=by rw[Bool.eq_iff_iff,HR.out,WG rfl];simp[and_assoc]
   subst kF;clear HR HX JK;by_cases h1:0<=num
   ·cases h2:nm.toList.isEmpty
    ·go_enter Tryz.func122,Tryz.ntmps122
     go_wp2_with fail;go_ret;exact⟨by simp,by go_grown⟩
    ·go_enter Tryz.func122,Tryz.ntmps122
     go_wp2_with fail;go_ret;exact⟨by(simp[h1];try (rw[Bool.eq_iff_iff];simp<;>omega)),by go_grown⟩
   ·have yI:decide (0<=num)=false:=by simpa using h1
    go_enter Tryz.func122,Tryz.ntmps122;go_wp2_with fail;go_ret;exact⟨by simp[h1],by go_grown⟩
  ·obtain⟨p,hp⟩:∃p,(decide (num=0)&&aS nm)=p:=⟨_,rfl⟩
   have kF:r=(p&&decide (n=0)):=by rw[<-hp,Bool.eq_iff_iff,HR.out,vY (by simp)];simp[and_assoc]
   have hnm:=fun w=>jP ⟨2,num,nm,A,n,cap⟩ w
   dsimp only at hnm;rw[hp]at hnm;have mB:=aA hnm;clear hp hnm;subst kF;cases p
   ·go_enter Tryz.func122,Tryz.ntmps122
    go_wp2_with fail;refine(mB.out _).mono ?_;rintro e w1 ⟨rfl,aG⟩;have lO:Below w'.heap.size w' w1:=Below.trans (by go_grown) (aG.mono (by go_size));go_wp2_with fail;go_ret;exact⟨by(simp;try (rw[Bool.eq_iff_iff];simp<;>omega)),lO⟩
   ·go_enter Tryz.func122,Tryz.ntmps122
    go_upto_region 1 with fail;refine aB ?_;intro w0 qH;have tN:Below w'.heap.size w' w0:=by rw[qH];go_grown
    have K1:Blk w0 w'.heap.size 26 #[.int .u8 2,.int .i64 num,.string nm,.slice A n cap]:=by rw[qH];exact aQ
    clear qH;obtain⟨aL,aJ,aK⟩:=K1.open_;have tJ:=aA K1;clear K1;go_wp2_with fail;refine(mB.out _).mono ?_;rintro e w1 ⟨rfl,aG⟩;have K1:=tJ.out.next aG;have lO:=tN.next aG;clear aJ aL aK tJ aG;obtain⟨aL,aJ,aK⟩:=K1.open_;go_wp2_with fail;go_ret;exact⟨by(simp;try (rw[Bool.eq_iff_iff];simp<;>omega)),lO⟩
  ·obtain⟨p,hp⟩:∃p,(decide (num=0)&&aS nm)=p:=⟨_,rfl⟩
   have kF:r=(p&&decide (n=0)):=by rw[<-hp,Bool.eq_iff_iff,HR.out,vY (by simp)];simp[and_assoc]
   have hnm:=fun w=>jP ⟨4,num,nm,A,n,cap⟩ w
   dsimp only at hnm;rw[hp]at hnm;have mB:=aA hnm;clear hp hnm;subst kF;cases p
   ·go_enter Tryz.func122,Tryz.ntmps122
    go_wp2_with fail;refine(mB.out _).mono ?_;rintro e w1 ⟨rfl,aG⟩;have lO:Below w'.heap.size w' w1:=Below.trans (by go_grown) (aG.mono (by go_size));go_wp2_with fail;go_ret;exact⟨by(simp;try (rw[Bool.eq_iff_iff];simp<;>omega)),lO⟩
   ·go_enter Tryz.func122,Tryz.ntmps122
    go_upto_region 1 with fail;refine aB ?_;intro w0 qH;have tN:Below w'.heap.size w' w0:=by rw[qH];go_grown
    have K1:Blk w0 w'.heap.size 26 #[.int .u8 4,.int .i64 num,.string nm,.slice A n cap]:=by rw[qH];exact aQ
    clear qH;obtain⟨aL,aJ,aK⟩:=K1.open_;have tJ:=aA K1;clear K1;go_wp2_with fail;refine(mB.out _).mono ?_;rintro e w1 ⟨rfl,aG⟩;have K1:=tJ.out.next aG;have lO:=tN.next aG;clear aJ aL aK tJ aG;obtain⟨aL,aJ,aK⟩:=K1.open_;go_wp2_with fail;go_ret;exact⟨by(simp;try (rw[Bool.eq_iff_iff];simp<;>omega)),lO⟩
  ·obtain⟨p,hp⟩:∃p,(decide (num=0)&&aS nm)=p:=⟨_,rfl⟩
   have kF:r=(p&&decide (n=0)):=by rw[<-hp,Bool.eq_iff_iff,HR.out,vY (by simp)];simp[and_assoc]
   have hnm:=fun w=>jP ⟨5,num,nm,A,n,cap⟩ w
   dsimp only at hnm;rw[hp]at hnm;have mB:=aA hnm;clear hp hnm;subst kF;cases p
   ·go_enter Tryz.func122,Tryz.ntmps122
    go_wp2_with fail;refine(mB.out _).mono ?_;rintro e w1 ⟨rfl,aG⟩;have lO:Below w'.heap.size w' w1:=Below.trans (by go_grown) (aG.mono (by go_size));go_wp2_with fail;go_ret;exact⟨by(simp;try (rw[Bool.eq_iff_iff];simp<;>omega)),lO⟩
   ·go_enter Tryz.func122,Tryz.ntmps122
    go_upto_region 1 with fail;refine aB ?_;intro w0 qH;have tN:Below w'.heap.size w' w0:=by rw[qH];go_grown
    have K1:Blk w0 w'.heap.size 26 #[.int .u8 5,.int .i64 num,.string nm,.slice A n cap]:=by rw[qH];exact aQ
    clear qH;obtain⟨aL,aJ,aK⟩:=K1.open_;have tJ:=aA K1;clear K1;go_wp2_with fail;refine(mB.out _).mono ?_;rintro e w1 ⟨rfl,aG⟩;have K1:=tJ.out.next aG;have lO:=tN.next aG;clear aJ aL aK tJ aG;obtain⟨aL,aJ,aK⟩:=K1.open_;go_wp2_with fail;go_ret;exact⟨by(simp;try (rw[Bool.eq_iff_iff];simp<;>omega)),lO⟩
  ·obtain⟨p,hp⟩:∃p,(decide (num=0)&&aS nm)=p:=⟨_,rfl⟩
   have kF:p=false->r=false:=fun h=>by
    cases hr:r with
    |false=>rfl
    |true=>have h2:=((P5 (x:=⟨3,num,nm,A,n,cap⟩) rfl).1 (HR.out.1 hr)).1;rw[<-hp]at h;simp at h2 h;simp_all
   have OA:p=true->(r=true↔(⟨3,num,nm,A,n,cap⟩:Nd).n=1∧∀i,i<1->∃y,Kid w B ⟨3,num,nm,A,n,cap⟩ i y∧zL w B aS y):=fun h=>by
    rw[HR.out,(P5 (x:=⟨3,num,nm,A,n,cap⟩) rfl)];rw[<-hp]at h;constructor
    ·exact fun h=>h.2
    ·exact fun h2=>⟨by simpa using h,h2⟩
   have hnm:=fun w=>jP ⟨3,num,nm,A,n,cap⟩ w
   dsimp only at hnm;rw[hp]at hnm;have mB:=aA hnm;have nJ:=aA kF;have wY:=aA OA;clear hp hnm kF OA;cases p
   ·obtain rfl:r=false:=nJ.out rfl
    go_enter Tryz.func122,Tryz.ntmps122;go_wp2_with fail;refine(mB.out _).mono ?_;rintro e w1 ⟨rfl,aG⟩;have lO:Below w'.heap.size w' w1:=Below.trans (by go_grown) (aG.mono (by go_size));go_wp2_with fail;go_ret;exact⟨rfl,lO⟩
   ·go_enter Tryz.func122,Tryz.ntmps122
    go_upto_region 1 with fail;refine aB ?_;intro w0 qH;have tN:Below w'.heap.size w' w0:=by rw[qH];go_grown
    have K1:Blk w0 w'.heap.size 26 #[.int .u8 (3),.int .i64 num,.string nm,.slice A n cap]:=by rw[qH];exact aQ
    clear qH;obtain⟨aL,aJ,aK⟩:=K1.open_;have tJ:=aA K1;clear K1;go_wp2_with fail;refine(mB.out _).mono ?_;rintro e w1 ⟨rfl,aG⟩;have K1:=tJ.out.next aG;have lO:=tN.next aG;clear aJ aL aK tJ aG;obtain⟨aL,aJ,aK⟩:=K1.open_;go_wp2_with fail;refine(z9 bG JK.out ⟨3,num,nm,A,n,cap⟩ HX.out _ (HB.out.trans (Below.mono (B:=w'.heap.size) (by go_grown) (by have:=HB.out.size;omega))) w1.heap.size 1 _ _ (Blk.new' (by simp) _ _) rfl (by decide) (fun i hi=>by obtain rfl:i=0:=(by omega);rfl) r (wY.out (by trivial))).mono ?_;rintro e w2 ⟨rfl,hb2⟩;have GF:Below w'.heap.size w' w2:=Below.trans (by go_grown) (hb2.mono (by go_size));go_wp2_with fail;go_ret;exact⟨by cases r<;>rfl,GF⟩
  ·obtain⟨p,hp⟩:∃p,(decide (num=0)&&nm.toList.isEmpty)=p:=⟨_,rfl⟩
   have kF:p=false->r=false:=fun h=>by
    cases hr:r with
    |false=>rfl
    |true=>have h2:=((C7 (x:=⟨6,num,nm,A,n,cap⟩) (by simp)).1 (HR.out.1 hr)).1;rw[<-hp]at h;simp at h2 h;simp_all
   have OA:p=true->(r=true↔(⟨6,num,nm,A,n,cap⟩:Nd).n=1∧∀i,i<1->∃y,Kid w B ⟨6,num,nm,A,n,cap⟩ i y∧zL w B aS y):=fun h=>by
    rw[HR.out,(C7 (x:=⟨6,num,nm,A,n,cap⟩) (by simp))];rw[<-hp]at h;constructor
    ·exact fun h=>h.2
    ·exact fun h2=>⟨by simpa using h,h2⟩
   have hnm:=fun w=>jQ ⟨6,num,nm,A,n,cap⟩ w
   dsimp only at hnm;rw[hp]at hnm;have mB:=aA hnm;have nJ:=aA kF;have wY:=aA OA;clear hp hnm kF OA;cases p
   ·obtain rfl:r=false:=nJ.out rfl
    go_enter Tryz.func122,Tryz.ntmps122;go_wp2_with fail;refine(mB.out _).mono ?_;rintro e w1 ⟨rfl,aG⟩;have lO:Below w'.heap.size w' w1:=Below.trans (by go_grown) (aG.mono (by go_size));go_wp2_with fail;go_ret;exact⟨rfl,lO⟩
   ·go_enter Tryz.func122,Tryz.ntmps122
    go_upto_region 1 with fail;refine aB ?_;intro w0 qH;have tN:Below w'.heap.size w' w0:=by rw[qH];go_grown
    have K1:Blk w0 w'.heap.size 26 #[.int .u8 (6),.int .i64 num,.string nm,.slice A n cap]:=by rw[qH];exact aQ
    clear qH;obtain⟨aL,aJ,aK⟩:=K1.open_;have tJ:=aA K1;clear K1;go_wp2_with fail;refine(mB.out _).mono ?_;rintro e w1 ⟨rfl,aG⟩;have K1:=tJ.out.next aG;have lO:=tN.next aG;clear aJ aL aK tJ aG;obtain⟨aL,aJ,aK⟩:=K1.open_;go_wp2_with fail;refine(z9 bG JK.out ⟨6,num,nm,A,n,cap⟩ HX.out _ (HB.out.trans (Below.mono (B:=w'.heap.size) (by go_grown) (by have:=HB.out.size;omega))) w1.heap.size 1 _ _ (Blk.new' (by simp) _ _) rfl (by decide) (fun i hi=>by obtain rfl:i=0:=(by omega);rfl) r (wY.out (by trivial))).mono ?_;rintro e w2 ⟨rfl,hb2⟩;have GF:Below w'.heap.size w' w2:=Below.trans (by go_grown) (hb2.mono (by go_size));go_wp2_with fail;go_ret;exact⟨by cases r<;>rfl,GF⟩
  ·obtain⟨p,hp⟩:∃p,(decide (num=0)&&nm.toList.isEmpty)=p:=⟨_,rfl⟩
   have kF:p=false->r=false:=fun h=>by
    cases hr:r with
    |false=>rfl
    |true=>have h2:=((C7 (x:=⟨7,num,nm,A,n,cap⟩) (by simp)).1 (HR.out.1 hr)).1;rw[<-hp]at h;simp at h2 h;simp_all
   have OA:p=true->(r=true↔(⟨7,num,nm,A,n,cap⟩:Nd).n=1∧∀i,i<1->∃y,Kid w B ⟨7,num,nm,A,n,cap⟩ i y∧zL w B aS y):=fun h=>by
    rw[HR.out,(C7 (x:=⟨7,num,nm,A,n,cap⟩) (by simp))];rw[<-hp]at h;constructor
    ·exact fun h=>h.2
    ·exact fun h2=>⟨by simpa using h,h2⟩
   have hnm:=fun w=>jQ ⟨7,num,nm,A,n,cap⟩ w
   dsimp only at hnm;rw[hp]at hnm;have mB:=aA hnm;have nJ:=aA kF;have wY:=aA OA;clear hp hnm kF OA;cases p
   ·obtain rfl:r=false:=nJ.out rfl
    go_enter Tryz.func122,Tryz.ntmps122;go_wp2_with fail;refine(mB.out _).mono ?_;rintro e w1 ⟨rfl,aG⟩;have lO:Below w'.heap.size w' w1:=Below.trans (by go_grown) (aG.mono (by go_size));go_wp2_with fail;go_ret;exact⟨rfl,lO⟩
   ·go_enter Tryz.func122,Tryz.ntmps122
    go_upto_region 1 with fail;refine aB ?_;intro w0 qH;have tN:Below w'.heap.size w' w0:=by rw[qH];go_grown
    have K1:Blk w0 w'.heap.size 26 #[.int .u8 (7),.int .i64 num,.string nm,.slice A n cap]:=by rw[qH];exact aQ
    clear qH;obtain⟨aL,aJ,aK⟩:=K1.open_;have tJ:=aA K1;clear K1;go_wp2_with fail;refine(mB.out _).mono ?_;rintro e w1 ⟨rfl,aG⟩;have K1:=tJ.out.next aG;have lO:=tN.next aG;clear aJ aL aK tJ aG;obtain⟨aL,aJ,aK⟩:=K1.open_;go_wp2_with fail;refine(z9 bG JK.out ⟨7,num,nm,A,n,cap⟩ HX.out _ (HB.out.trans (Below.mono (B:=w'.heap.size) (by go_grown) (by have:=HB.out.size;omega))) w1.heap.size 1 _ _ (Blk.new' (by simp) _ _) rfl (by decide) (fun i hi=>by obtain rfl:i=0:=(by omega);rfl) r (wY.out (by trivial))).mono ?_;rintro e w2 ⟨rfl,hb2⟩;have GF:Below w'.heap.size w' w2:=Below.trans (by go_grown) (hb2.mono (by go_size));go_wp2_with fail;go_ret;exact⟨by cases r<;>rfl,GF⟩
  ·have q1:(k==1)=false:=by simp;omega
   have q2:(k==2)=false:=by simp;omega
   have q3:(k==3)=false:=by simp;omega
   have q4:(k==4)=false:=by simp;omega
   have q5:(k==5)=false:=by simp;omega
   have q6:(k==6)=false:=by simp;omega
   have q7:(k==7)=false:=by simp;omega
   have q8:decide (8<=k)=true:=by simp;omega
   have q9:decide (k<=23)=true:=by simp;omega
   obtain⟨p,hp⟩:∃p,(decide (num=0)&&nm.toList.isEmpty)=p:=⟨_,rfl⟩;have kF:p=false->r=false:=fun h=>by
    cases hr:r with
    |false=>rfl
    |true=>have h2:=((DQ (x:=⟨k,num,nm,A,n,cap⟩) ⟨h8,Pa⟩).1 (HR.out.1 hr)).1;rw[<-hp]at h;simp at h2 h;simp_all
   have OA:p=true->(r=true↔(⟨k,num,nm,A,n,cap⟩:Nd).n=2∧∀i,i<2->∃y,Kid w B ⟨k,num,nm,A,n,cap⟩ i y∧zL w B aS y):=fun h=>by
    rw[HR.out,(DQ (x:=⟨k,num,nm,A,n,cap⟩) ⟨h8,Pa⟩)];rw[<-hp]at h;constructor
    ·exact fun h=>h.2
    ·exact fun h2=>⟨by simpa using h,h2⟩
   have hnm:=fun w=>jQ ⟨k,num,nm,A,n,cap⟩ w
   dsimp only at hnm;rw[hp]at hnm;have mB:=aA hnm;have nJ:=aA kF;have wY:=aA OA;clear hp hnm kF OA;cases p
   ·obtain rfl:r=false:=nJ.out rfl
    go_enter Tryz.func122,Tryz.ntmps122;go_wp2_with fail;refine(mB.out _).mono ?_;rintro e w1 ⟨rfl,aG⟩;have lO:Below w'.heap.size w' w1:=Below.trans (by go_grown) (aG.mono (by go_size));go_wp2_with fail;go_ret;exact⟨rfl,lO⟩
   ·go_enter Tryz.func122,Tryz.ntmps122
    go_upto_region 1 with fail;refine aB ?_;intro w0 qH;have tN:Below w'.heap.size w' w0:=by rw[qH];go_grown
    have K1:Blk w0 w'.heap.size 26 #[.int .u8 (k),.int .i64 num,.string nm,.slice A n cap]:=by rw[qH];exact aQ
    clear qH;obtain⟨aL,aJ,aK⟩:=K1.open_;have tJ:=aA K1;clear K1;go_wp2_with fail;refine(mB.out _).mono ?_;rintro e w1 ⟨rfl,aG⟩;have K1:=tJ.out.next aG;have lO:=tN.next aG;clear aJ aL aK tJ aG;obtain⟨aL,aJ,aK⟩:=K1.open_;go_wp2_with fail;refine(z9 bG JK.out ⟨k,num,nm,A,n,cap⟩ HX.out _ (HB.out.trans (Below.mono (B:=w'.heap.size) (by go_grown) (by have:=HB.out.size;omega))) w1.heap.size 2 _ _ (Blk.new' (by simp) _ _) rfl (by decide) (fun i hi=>by rcases(show i=0∨i=1 by omega)with rfl|rfl<;>rfl) r (wY.out (by trivial))).mono ?_;rintro e w2 ⟨rfl,hb2⟩;have GF:Below w'.heap.size w' w2:=Below.trans (by go_grown) (hb2.mono (by go_size));go_wp2_with fail;go_ret;exact⟨by cases r<;>rfl,GF⟩
end Go.Proofs.YtakfdnnlhjhcfaaGreatDoor
