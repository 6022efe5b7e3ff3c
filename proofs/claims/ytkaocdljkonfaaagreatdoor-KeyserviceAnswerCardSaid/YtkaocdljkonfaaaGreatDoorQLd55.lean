/-
  The calls of the examples of the service of keys, by the contracts of the functions called. The examples of the service of keys hold in every world. K
-/
import Derived.Test.YtkaocdljkonfaaaGreatDoorQJs
import Derived.Test.YtkaocdljkonfaaaGreatDoorRows
import Derived.ProofKit
import Derived.Stop.LaidErr
import Derived.Lib.LaidTab
set_option maxHeartbeats 64000000
set_option maxRecDepth 100000
namespace Go.Vm.Seat
variable {s:Sv}
open Go.Proofs
theorem okt {t:Tm} (h:(Zmp t&&Nat.ble t.size 20000)=true):t.Ok∧t.size≤20000:=by
 simp only [Bool.and_eq_true] at h
 exact ⟨Zgs t h.1,Nat.le_of_ble_eq_true h.2⟩
abbrev okt? (t:Tm):Bool:=Zmp t&&Nat.ble t.size 20000
abbrev Z6:={x:Fact // FactOk E0 Tryz.prog x}
def Wj (t:Tm) (e:Int) (h1:okt? t=true) (h2:t.valid=e):Z6:=⟨⟨74,[.agg t.cells],.int .i64 e⟩,fun H=>by
 have:=okt h1
 rw [← h2];exact c74 this.1 (by omega) H⟩
def WP (t u:Tm) (e:Int) (h1:(okt? t&&okt? u)=true) (h2:t.cmp u=e):Z6:=⟨⟨77,[.agg t.cells,.agg u.cells],.int .i64 e⟩,fun H=>by
 rw [Bool.and_eq_true] at h1
 have a:=okt h1.1
 have b:=okt h1.2
 rw [← h2];exact Zkq (d77 a.1 b.1 (by omega) (by omega) H)⟩
def ZoB (t u:Tm) (e:Bool) (h1:(okt? t&&okt? u)=true) (h2:decide (t.cmp u=0)=e):Z6:=⟨⟨23,[.agg t.cells,.agg u.cells],.bool e⟩,fun H=>by
 rw [Bool.and_eq_true] at h1
 have a:=okt h1.1
 have b:=okt h1.2
 rw [← h2];exact c23 a.1 b.1 (by omega) (by omega) H⟩
def Za2 (t u:Tm) (h1:okt? t=true) (h2:Zdp t.cl.cells u.cells=true):Z6:=⟨⟨80,[.agg t.cells],.agg u.cells⟩,fun H=>by
 have:=okt h1
 rw [← Zam _ _ h2];exact c80 this.1 (by omega) H⟩
def Qo (t u:Tm) (h1:okt? t=true) (h2:Zdp t.cl.cells u.cells=true):Z6:=⟨⟨33,[.agg t.cells],.agg u.cells⟩,fun H=>by
 have:=okt h1
 rw [← Zam _ _ h2];exact c33 this.1 (by omega) H⟩
def ZnC (n:Int) (s:List UInt8) (h1:0≤n∧n≤9999) (h2:Lib.itoa n=s):Z6:=⟨⟨171,[.int .i64 n,.int .i64 10],.str s⟩,fun H=>by
 rw [← h2];exact c171 h1.1 h1.2 H⟩
def okc? (x:Cred):Bool:=Nat.ble x.sub.length 1000&&(okt? x.key&&(x.per.isEmpty&&x.exc.isEmpty))
structure OkC (x:Cred):Prop where
 h1:x.sub.length≤1000
 hk:x.key.Ok
 hks:x.key.size≤20000
 hp:x.per= []
 he:x.exc= []
theorem okc {x:Cred} (h:okc? x=true):OkC x:=by
 simp only [okc?,Bool.and_eq_true,List.isEmpty_iff] at h
 have:=okt (t:=x.key) (by simp only [Bool.and_eq_true];exact h.2.1)
 exact ⟨Nat.le_of_ble_eq_true h.1,this.1,this.2,h.2.2.1,h.2.2.2⟩
def ZhM (x:Cred) (e:Int) (h1:okc? x=true) (h2:x.valid=e):Z6:=⟨⟨117,[.agg x.cells],.int .i64 e⟩,fun H=>by
 have a:=okc h1
 have:=a.hks
 have:=a.h1
 rw [← h2];exact ZqZ x (by omega) a.hk (by omega) (by simp [a.hp]) (by simp [a.he]) (by simp [a.hp]) (by simp [a.he]) H⟩
def Zig (x:Cred) (key:Tm) (t:Tm) (e:Int) (h1:(okc? x&&okt? key)=true) (h2:(Zdp (x.issue key).1.cells t.cells&&decide ((x.issue key).2=e))=true):Z6:=⟨⟨109,[.agg x.cells,.agg key.cells],.tup [.agg t.cells,.int .i64 e]⟩,fun H=>by
 rw [Bool.and_eq_true] at h1
 have a:=okc h1.1
 have b:=okt h1.2
 have:=a.hks
 have:=a.h1
 rw [Bool.and_eq_true] at h2
 rw [← Zam _ _ h2.1, ← of_decide_eq_true h2.2]
 exact ZnL x (key:=key) (by omega) (by simp [a.hp]) (by simp [a.he]) (by simp [a.hp]) (by simp [a.he]) a.hk (by omega) b.1 (by omega) H⟩
def ZlF (t:Tm) (x:Cred) (e:Int) (h1:okt? t=true) (h2:Zj t=(x,e)):Z6:=⟨⟨57,[.agg t.cells],.tup [.agg x.cells,.int .i64 e]⟩,fun H=>by
 have a:=okt h1
 have:=c57 a.1 (by omega) H
 rw [h2] at this
 exact this⟩
def ZmN (h:Tm) (n i:Int) (t:Tm) (b:Bool) (l:List Tm) (e:Bool) (h1:(okt? h&&(okt? t&&l.all okt?))=true) (h2:Zdi h n i t l=e) (h3:(Lit.int .i64 n).wf=true∧(Lit.int .i64 i).wf=true):Z6:=⟨⟨59,[.agg h.cells,.int .i64 n,.int .i64 i,.agg t.cells,slV b 4 (Za l)],.bool e⟩,fun H=>by
 simp only [Bool.and_eq_true] at h1
 have a:=okt (t:=h) (by simp only [Bool.and_eq_true];exact h1.1)
 have c:=okt (t:=t) (by simp only [Bool.and_eq_true];exact h1.2.1)
 rw [← h2];exact c59 a.1 a.2 c.1 c.2 (fun x hx=>okt (List.all_eq_true.1 h1.2.2 x hx)) b h3.1 h3.2 H⟩
def xt0:Tm:= .mk 2 [108,111,103] 0 true []
def xt1:Tm:= .mk 2 [108,111,103] 1 true []
def xt2:Tm:= .mk 3 [115,107] 0 false [xt1]
def xt3:Tm:= .mk 2 [110,111,110,101] 5 true []
def xt4:Tm:= .mk 3 [104,97,115,104] 0 false [xt3]
def xt5:Tm:= .mk 2 [108,101,100,103,101,114] 5 true []
def xt6:Tm:= .mk 2 [110,48] 4 true []
def xt7:Tm:= .mk 3 [112,97,105,114] 0 false [xt6,xt4]
def xt8:Tm:= .mk 3 [112,97,105,114] 0 false [xt5,xt7]
def xt9:Tm:= .mk 3 [115,105,103,110] 0 false [xt8,xt2]
def ZrH:Tm:= .mk 2 [97] 1 true []
def Zsm:Tm:= .mk 3 [115,107] 0 false [ZrH]
def ZiA:Tm:= .mk 3 [112,107] 0 false [Zsm]
def xc0:Cred:=⟨[97,46,111,114,103],ZiA,false,true,[],true,[],0,0,9999⟩
def Zpa:Tm:= .mk 2 [99,101,114,116] 5 true []
def Zso:Tm:= .mk 2 [97] 4 true []
def Zsx:Tm:= .mk 2 [111,114,103] 4 true []
def ZlH:Tm:= .mk 2 [101,110,100] 5 true []
def ZqF:Tm:= .mk 3 [112,97,105,114] 0 false [Zsx,ZlH]
def Zqv:Tm:= .mk 3 [112,97,105,114] 0 false [Zso,ZqF]
def ZoI:Tm:= .mk 2 [110,111] 4 true []
def Zs8:Tm:= .mk 2 [110,57,57,57,57] 4 true []
def ZqT:Tm:= .mk 3 [112,97,105,114] 0 false [xt6,Zs8]
def Zt2:Tm:= .mk 3 [112,97,105,114] 0 false [xt6,ZqT]
def Ztt:Tm:= .mk 3 [112,97,105,114] 0 false [ZlH,Zt2]
def ZsU:Tm:= .mk 3 [112,97,105,114] 0 false [ZlH,Ztt]
def Zry:Tm:= .mk 3 [112,97,105,114] 0 false [ZoI,ZsU]
def Zsq:Tm:= .mk 3 [112,97,105,114] 0 false [ZiA,Zry]
def ZtY:Tm:= .mk 3 [112,97,105,114] 0 false [Zqv,Zsq]
def Ztw:Tm:= .mk 3 [112,97,105,114] 0 false [Zpa,ZtY]
def Zjb:Tm:= .mk 3 [115,105,103,110] 0 false [Ztw,xt2]
def ZpT:Tm:= .mk 2 [108,101,97,102] 5 true []
def Zrm:Tm:= .mk 3 [112,97,105,114] 0 false [ZpT,Zjb]
def Zm6:Tm:= .mk 3 [104,97,115,104] 0 false [Zrm]
def ZqK:Tm:= .mk 2 [110,49] 4 true []
def Zrg:Tm:= .mk 3 [112,97,105,114] 0 false [ZqK,Zm6]
def ZtV:Tm:= .mk 3 [112,97,105,114] 0 false [xt5,Zrg]
def Ztv:Tm:= .mk 3 [115,105,103,110] 0 false [ZtV,xt2]
def Zsc:Tm:= .mk 2 [98] 1 true []
def Zrn:Tm:= .mk 3 [115,107] 0 false [Zsc]
def Zl1:Tm:= .mk 3 [112,107] 0 false [Zrn]
def xc1:Cred:=⟨[98,46,111,114,103],Zl1,false,true,[],true,[],1,0,9999⟩
def Zt4:Tm:= .mk 2 [98] 4 true []
def Zsr:Tm:= .mk 3 [112,97,105,114] 0 false [Zt4,ZqF]
def Zt8:Tm:= .mk 3 [112,97,105,114] 0 false [ZqK,ZqT]
def ZsP:Tm:= .mk 3 [112,97,105,114] 0 false [ZlH,Zt8]
def Zrl:Tm:= .mk 3 [112,97,105,114] 0 false [ZlH,ZsP]
def ZsR:Tm:= .mk 3 [112,97,105,114] 0 false [ZoI,Zrl]
def Zrd:Tm:= .mk 3 [112,97,105,114] 0 false [Zl1,ZsR]
def ZrJ:Tm:= .mk 3 [112,97,105,114] 0 false [Zsr,Zrd]
def ZrZ:Tm:= .mk 3 [112,97,105,114] 0 false [Zpa,ZrJ]
def Zkl:Tm:= .mk 3 [115,105,103,110] 0 false [ZrZ,xt2]
def Zp5:Tm:= .mk 2 [110,111,100,101] 5 true []
def Zs0:Tm:= .mk 3 [112,97,105,114] 0 false [ZpT,Zkl]
def ZnE:Tm:= .mk 3 [104,97,115,104] 0 false [Zs0]
def Zsp:Tm:= .mk 3 [112,97,105,114] 0 false [Zm6,ZnE]
def Zr7:Tm:= .mk 3 [112,97,105,114] 0 false [Zp5,Zsp]
def Zko:Tm:= .mk 3 [104,97,115,104] 0 false [Zr7]
def ZqJ:Tm:= .mk 2 [110,50] 4 true []
def Ztr:Tm:= .mk 3 [112,97,105,114] 0 false [ZqJ,Zko]
def Ztn:Tm:= .mk 3 [112,97,105,114] 0 false [xt5,Ztr]
def Zm5:Tm:= .mk 3 [115,105,103,110] 0 false [Ztn,xt2]
def ZoL:Tm:= .mk 3 [112,107] 0 false [xt2]
def xc2:Cred:=⟨[97,46,111,114,103],ZiA,false,true,[],true,[],2,0,0⟩
def ZsQ:Tm:= .mk 3 [112,97,105,114] 0 false [xt6,xt6]
def ZsL:Tm:= .mk 3 [112,97,105,114] 0 false [ZqJ,ZsQ]
def Zs7:Tm:= .mk 3 [112,97,105,114] 0 false [ZlH,ZsL]
def Zrb:Tm:= .mk 3 [112,97,105,114] 0 false [ZlH,Zs7]
def Zte:Tm:= .mk 3 [112,97,105,114] 0 false [ZoI,Zrb]
def Zr6:Tm:= .mk 3 [112,97,105,114] 0 false [ZiA,Zte]
def Zr4:Tm:= .mk 3 [112,97,105,114] 0 false [Zqv,Zr6]
def ZsA:Tm:= .mk 3 [112,97,105,114] 0 false [Zpa,Zr4]
def Zl0:Tm:= .mk 3 [115,105,103,110] 0 false [ZsA,xt2]
def Ztl:Tm:= .mk 3 [112,97,105,114] 0 false [ZpT,Zl0]
def ZsS:Tm:= .mk 3 [104,97,115,104] 0 false [Ztl]
def Zq8:Tm:= .mk 3 [112,97,105,114] 0 false [Zko,ZsS]
def Zru:Tm:= .mk 3 [112,97,105,114] 0 false [Zp5,Zq8]
def ZnF:Tm:= .mk 3 [104,97,115,104] 0 false [Zru]
def ZsO:Tm:= .mk 2 [110,51] 4 true []
def ZrV:Tm:= .mk 3 [112,97,105,114] 0 false [ZsO,ZnF]
def ZtR:Tm:= .mk 3 [112,97,105,114] 0 false [xt5,ZrV]
def ZsN:Tm:= .mk 3 [115,105,103,110] 0 false [ZtR,xt2]
def xf0:Z6:=Wj xt0 0 (by kernel_rfl) (by kernel_rfl)
def xf1:Z6:=WP xt2 xt2 0 (by kernel_rfl) (by kernel_rfl)
def xf2:Z6:=Wj xt4 0 (by kernel_rfl) (by kernel_rfl)
def xf3:Z6:=Za2 xt4 xt4 (by kernel_rfl) (by kernel_rfl)
def xf4:Z6:=Wj xt2 0 (by kernel_rfl) (by kernel_rfl)
def xf5:Z6:=ZnC 0 [48] (by decide) (by kernel_rfl)
def xf6:Z6:=Za2 xt2 xt2 (by kernel_rfl) (by kernel_rfl)
def xf7:Z6:=Wj xt9 0 (by kernel_rfl) (by kernel_rfl)
def xf8:Z6:=ZhM xc0 0 (by kernel_rfl) (by kernel_rfl)
def xf9:Z6:=Zig xc0 xt2 Zjb 0 (by kernel_rfl) (by kernel_rfl)
def ZrF:Z6:=Qo xt2 xt2 (by kernel_rfl) (by kernel_rfl)
def Zta:Z6:=Qo ZiA ZiA (by kernel_rfl) (by kernel_rfl)
def Zr1:Z6:=Wj Zjb 0 (by kernel_rfl) (by kernel_rfl)
def ZrQ:Z6:=Wj Zm6 0 (by kernel_rfl) (by kernel_rfl)
def ZtA:Z6:=Za2 Zm6 Zm6 (by kernel_rfl) (by kernel_rfl)
def ZsY:Z6:=ZnC 1 [49] (by decide) (by kernel_rfl)
def ZsM:Z6:=Wj Ztv 0 (by kernel_rfl) (by kernel_rfl)
def Zt7:Z6:=ZlF Zjb xc0 0 (by kernel_rfl) (by kernel_rfl)
def Zrf:Z6:=WP Zjb Zjb 0 (by kernel_rfl) (by kernel_rfl)
def Zto:Z6:=WP ZiA ZiA 0 (by kernel_rfl) (by kernel_rfl)
def Zrt:Z6:=ZhM xc1 0 (by kernel_rfl) (by kernel_rfl)
def ZrK:Z6:=Zig xc1 xt2 Zkl 0 (by kernel_rfl) (by kernel_rfl)
def Zsg:Z6:=Qo Zjb Zjb (by kernel_rfl) (by kernel_rfl)
def ZsH:Z6:=Qo Zl1 Zl1 (by kernel_rfl) (by kernel_rfl)
def Zsw:Z6:=Wj Zkl 0 (by kernel_rfl) (by kernel_rfl)
def Zs3:Z6:=Wj Zko 0 (by kernel_rfl) (by kernel_rfl)
def Zsf:Z6:=Za2 Zko Zko (by kernel_rfl) (by kernel_rfl)
def Ztg:Z6:=ZnC 2 [50] (by decide) (by kernel_rfl)
def ZrB:Z6:=Wj Zm5 0 (by kernel_rfl) (by kernel_rfl)
def Zt6:Z6:=ZlF Zkl xc1 0 (by kernel_rfl) (by kernel_rfl)
def ZtG:Z6:=WP Zkl Zkl 0 (by kernel_rfl) (by kernel_rfl)
def ZrD:Z6:=WP Zl1 Zl1 0 (by kernel_rfl) (by kernel_rfl)
def Ztq:Z6:=Za2 ZnE ZnE (by kernel_rfl) (by kernel_rfl)
def ZsC:Z6:=Wj ZoL 0 (by kernel_rfl) (by kernel_rfl)
def ZsZ:Z6:=WP Zm5 Zm5 0 (by kernel_rfl) (by kernel_rfl)
def ZtH:Z6:=ZmN Zko 2 0 Zjb false [ZnE] true (by kernel_rfl) (by kernel_rfl) ⟨by kernel_rfl,by kernel_rfl⟩
def ZsT:Z6:=Qo ZoL ZoL (by kernel_rfl) (by kernel_rfl)
def ZtP:Z6:=Qo Zko Zko (by kernel_rfl) (by kernel_rfl)
def Zsk:Z6:=Qo Zm5 Zm5 (by kernel_rfl) (by kernel_rfl)
def Zq5:Z6:=ZoB ZiA ZiA true (by kernel_rfl) (by kernel_rfl)
def Zt5:Z6:=Zig xc2 xt2 Zl0 0 (by kernel_rfl) (by kernel_rfl)
def Ztf:Z6:=Qo Zkl Zkl (by kernel_rfl) (by kernel_rfl)
def Zs6:Z6:=Wj Zl0 0 (by kernel_rfl) (by kernel_rfl)
def ZsJ:Z6:=Wj ZnF 0 (by kernel_rfl) (by kernel_rfl)
def Ztc:Z6:=Za2 ZnF ZnF (by kernel_rfl) (by kernel_rfl)
def Zt9:Z6:=ZnC 3 [51] (by decide) (by kernel_rfl)
def Zr2:Z6:=Wj ZsN 0 (by kernel_rfl) (by kernel_rfl)
def ZtW:Z6:=ZlF Zl0 xc2 0 (by kernel_rfl) (by kernel_rfl)
def Zra:Z6:=WP Zl0 Zl0 0 (by kernel_rfl) (by kernel_rfl)
def factsP:List Z6:=[xf0,xf1,xf2,xf3,xf4,xf5,xf6,xf7,xf8,xf9,ZrF,Zta,Zr1,ZrQ,ZtA,ZsY,ZsM,Zt7,Zrf,Zto,Zrt,ZrK,Zsg,ZsH,Zsw,Zs3,Zsf,Ztg,ZrB,Zt6,ZtG,ZrD,Ztq,ZsC,ZsZ,ZtH,ZsT,ZtP,Zsk,Zq5,Zt5,Ztf,Zs6,ZsJ,Ztc,Zt9,Zr2,ZtW,Zra]
def Zau:List Fact:=factsP.map Subtype.val
theorem Zf3:∀ x∈Zau,FactOk E0 Tryz.prog x:=fun x hx=>by
 obtain ⟨p,_,rfl⟩:=List.mem_map.1 hx
 exact p.2
open Go.Proofs
theorem Zd1:Ql (E7.knowsG Zau) 100 60 ⟨7,[],.bool true⟩=true:=by kernel_rfl
theorem ZhS:∀ x∈Zau,FactOk E7 Tryz.prog x:=fun x hx=>(Zf3 x hx).env rfl
theorem Zrz:FOk E7 Tryz.prog:=fun f fn c h hb=>fOk f fn c h hb
theorem Zre:Yu E7 Tryz.prog E7.Z:=ZfO (E:=E0) (E':=E7) rfl rfl rfl (fun h=>h) (fun f h=>by
 simp only [E7,Bool.or_eq_false_iff] at h
 exact h.1) zOk
theorem ZgM:∀ H,CallOk E0 Tryz.prog 7 [] H (.bool true) H:=fun H=>by
 have h:FactOk (E7.knowsG Zau) Tryz.prog ⟨7,[],.bool true⟩:=Xi (E:=E7.knowsG Zau) ⟨VS.1⟩ follows (ZiK Zrz) (Zdn ZhS Zre) Zd1
 exact Zoy ((h H).env rfl)
open Go.Proofs
theorem ZsF {x y z x' y' z':Tm} (h1:x.cl=x'.cl) (h2:y.cl=y'.cl) (h3:z.cl=z'.cl):Zgg [x,y,z] [x',y',z']=true:=by
 simp only [Zgg]
 rw [decide_eq_true (YG.2 h1),decide_eq_true (YG.2 h2),decide_eq_true (YG.2 h3)]
 rfl
theorem Zl2 {a b:Int} (h:a=b):ZQ E0 .eql 32 (.int .i64 a) (.int .i64 b)=some (.bool true):=by
 show some (PV.bool (a==b))=_
 rw [h,beq_self_eq_true]
open Go.Proofs
structure AnEq (a b:An):Prop where
 name:a.name=b.name
 entry:a.entry.cl=b.entry.cl
 idx:a.idx=b.idx
 size:a.size=b.size
 head:a.head.cl=b.head.cl
 signed:a.signed.cl=b.signed.cl
 incl:a.incl.map Tm.cl=b.incl.map Tm.cl
 ext:a.ext.map Tm.cl=b.ext.map Tm.cl
structure AnS (a:An):Prop where
 t:∀ t,t∈ [a.entry,a.head,a.signed]→t.Ok∧t.size≤1000000
 i:∀ t,t∈a.incl→t.Ok∧t.size≤1000000
 x:∀ t,t∈a.ext→t.Ok∧t.size≤1000000
 il:a.incl.length≤1000000
 xl:a.ext.length≤1000000
theorem AnEq.rfl' (a:An):AnEq a a:=⟨rfl,rfl,rfl,rfl,rfl,rfl,rfl,rfl⟩
theorem Qy:AnS An.zero:=⟨fun t ht=>by
 have:t=Tm.zero:=by simpa [An.zero] using ht
 subst this
 exact ⟨Tm.ok_zero,by decide⟩,fun t ht=>absurd ht (by simp [An.zero]),fun t ht=>absurd ht (by simp [An.zero]),by simp [An.zero],by simp [An.zero]⟩
theorem ZnM {a b:Bs} (h:a=b):ZQ E0 .eql 9 (.str a) (.str b)=some (.bool true):=by
 show some (PV.bool (a==b))=_
 rw [h,beq_self_eq_true]
theorem c20 {a b:An} (h:AnEq a b) (ha:AnS a) (hb:AnS b):∀ H,CallOk E0 Tryz.prog 20 [.agg a.cells,.agg b.cells] H (.bool true) H:=by
 have c1:=ZmD ha.t hb.t
 rw [ZsF h.entry h.head h.signed] at c1
 have c2:=c48 ha.i hb.i ha.il a.ib b.ib
 rw [ZbK h.incl] at c2
 have c3:=c48 ha.x hb.x ha.xl a.eb b.eb
 rw [ZbK h.ext] at c3
 have q1:=ZnM h.name
 have q2:=Q5 h.idx
 have q3:=Q5 h.size
 clear h ha hb
 obtain ⟨n1,⟨k1,m1,s1,b1,l1⟩,i1,z1,⟨k2,m2,s2,b2,l2⟩,⟨k3,m3,s3,b3,l3⟩,ib1,in1,eb1,ex1⟩:=a
 obtain ⟨n4,⟨k4,m4,s4,b4,l4⟩,i4,z4,⟨k5,m5,s5,b5,l5⟩,⟨k6,m6,s6,b6,l6⟩,ib4,in4,eb4,ex4⟩:=b
 simp only [An.cells,Tm.cells,List.cons_append,List.nil_append] at c1 c2 c3 q1 q2 q3 ⊢
 generalize Za in1=I1 at c2 ⊢
 generalize Za ex1=X1 at c3 ⊢
 generalize Za in4=I4 at c2 ⊢
 generalize Za ex4=X4 at c3 ⊢
 refine Jw tOk fe20.ok rfl ?_
 repeat' first|(apply qCl;rfl;rfl;rfl;rfl;first|exact c1 _|exact c2 _|exact c3 _)|refine Js ?_|refine Ji ?_|refine Jt ?_|refine Jo ?_|fail
 all_goals rfl
theorem Zbn (h:Tm) (n:Int) (key:Tm):(YI Tm.cl h.cl n key).1.cl=(YI id h n key).1.cl:=by
 have e1:(Wb h.cl n key).cl=(Wb h n key).cl:=by simp only [Wb,U5,U4,Tm.cl,clL,ZbR]
 have v0:=QB h
 have e2:=(ZbC h.cl n key).trans e1
 have v:=VY e2
 unfold YI
 simp only [id,v,v0]
 split; · rfl
 split; · rfl
 split; · rfl
 split; · rfl
 exact e2
theorem ZhQ (l:List Tm):(clL l).map Tm.cl=l.map Tm.cl:=by
 rw [Xx,List.map_map]
 exact List.map_congr_left fun t _=>ZbR t
theorem Qx (hv:svV s=0):Y7 s.log s.key=((Zx s.log).1,(YI id (Zx s.log).1 s.log.length s.key).1,decide ((YI id (Zx s.log).1 s.log.length s.key).2=0)):=by
 unfold Y7
 rw [if_neg (not_not_intro (Zb3 hv))]
theorem Zkg (hv:svV s=0) (name:Bs) (z:Int):(ZiR s name z).2=(Zix s name z).2∧AnEq (ZiR s name z).1 (Zix s name z).1:=by
 unfold ZiR Zix
 split
 · exact ⟨rfl,.rfl' _⟩
 · split
   · exact ⟨rfl,.rfl' _⟩
   · refine ⟨rfl, ⟨rfl, ?_, rfl, rfl, ?_, ?_, ?_, ?_⟩⟩
     · exact ZbR _
     · show (Zx s.log).1.cl.cl = (Y7 s.log s.key).1.cl
       rw [Qx hv]
       exact ZbR _
     · show (YI Tm.cl (Zx s.log).1.cl s.log.length s.key).1.cl = (Y7 s.log s.key).2.1.cl
       rw [Qx hv]
       exact Zbn _ _ _
     · exact ZhQ _
     · show (if z.toNat = 0 then [] else clL (Y2 32 s.log z.toNat true)).map Tm.cl = (if z.toNat = 0 then [] else Y2 32 s.log z.toNat true).map Tm.cl
       split
       · rfl
       · exact ZhQ _
theorem Zmf (h:Mad 10 s) (name:Bs) (z:Int):AnS (Zix s name z).1:=by
 unfold Zix
 split
 · exact Qy
 · split
   · exact Qy
   · have hh := ZiL h
     have hl:=h.len
     have hi:=ZdF (S:=150) 32 (l:=s.log) (Zs name s.log.reverse).2.1 (by omega) h.lg
     have hx:=ZdC (S:=150) 32 (l:=s.log) z.toNat true (by omega) h.lg
     have hil:=UJ 32 s.log (Zs name s.log.reverse).2.1
     have hxl:=WW 32 s.log z.toNat true
     have he:((s.log[(Zs name s.log.reverse).2.1]?).getD .zero).Ok∧((s.log[(Zs name s.log.reverse).2.1]?).getD .zero).size≤1000000:=by
      cases e:s.log[(Zs name s.log.reverse).2.1]? with
      | none=>exact ⟨Tm.ok_zero,by show Tm.zero.size≤_;have:Tm.zero.size=1:=rfl;omega⟩
      | some t=>exact ⟨h.ok.l t (List.mem_of_getElem? e),by have:=h.sz t (List.mem_of_getElem? e);show t.size≤_;omega⟩
     refine ⟨fun t ht=>?_,fun t ht=>?_,fun t ht=>?_,?_,?_⟩
     · simp only [anX, List.mem_cons, List.not_mem_nil, or_false] at ht
       rcases ht with rfl|rfl|rfl
       · exact he
       · exact ⟨hh.1.1,by have:=hh.1.2;omega⟩
       · exact ⟨hh.2.1,by have:=hh.2.2;omega⟩
     · exact ⟨(hi t ht).1,by have:=(hi t ht).2;omega⟩
     · simp only [anX] at ht
       split at ht
       · simp at ht
       · exact ⟨(hx t ht).1,by have:=(hx t ht).2;omega⟩
     · show (XI _ _ _).length ≤ _
       omega
     · show (if z.toNat = 0 then [] else Y2 32 s.log z.toNat true).length ≤ _
       split
       · simp
       · omega
theorem ZnS (h:Mad 10 s) (hv:svV s=0) (name:Bs) (z:Int):AnS (ZiR s name z).1:=by
 have hX:=Zmf h name z
 have hE:=(Zkg hv name z).2
 unfold Zix at hX
 unfold ZiR
 split
 · exact Qy
 · rename_i hk
   rw [if_neg hk] at hX
   split
   · exact Qy
   · rename_i hz
     rw [if_neg hz] at hX
     have hcl:∀ l:List Tm,(∀ t,t∈l→t.Ok∧t.size≤1000000)→∀ t,t∈clL l→t.Ok∧t.size≤1000000:=fun l hl t ht=>by
      rw [Xx] at ht
      obtain ⟨u,hu,rfl⟩:=List.mem_map.1 ht
      exact ⟨VV (hl u hu).1,by rw [Xq];exact (hl u hu).2⟩
     have hH:=hX.t (Y7 s.log s.key).1 (by simp [anX])
     rw [Qx hv] at hH
     have hs:=Zhb Tm.cl (fun t ht=>⟨VV ht,Xq t⟩) (s.log.length:Int) (VV hH.1) h.ok.k
     have hS2:(YI Tm.cl (Zx s.log).1.cl s.log.length s.key).1.size≤1000000:=by
      have h1:=(hX.t (Y7 s.log s.key).2.1 (by simp [anX])).2
      rw [Qx hv] at h1
      rw [← Xq,Zbn,Xq]
      exact h1
     refine ⟨fun t ht=>?_,hcl _ hX.i,fun t ht=>?_,?_,?_⟩
     · simp only [anY, List.mem_cons, List.not_mem_nil, or_false] at ht
       rcases ht with rfl|rfl|rfl
       · have := hX.t _ (List.mem_cons_self)
         exact ⟨VV this.1,by rw [Xq];exact this.2⟩
       · exact ⟨VV hH.1,by rw [Xq];exact hH.2⟩
       · exact ⟨hs.1,hS2⟩
     · have hx := hX.x
       simp only [anX] at hx
       simp only [anY] at ht
       by_cases h0:z.toNat=0
       · rw [if_pos h0] at ht;simp at ht
       · rw [if_neg h0] at ht hx
         exact hcl _ hx t ht
     · show (clL _).length ≤ _
       rw [W9]
       exact hX.il
     · have hx := hX.xl
       simp only [anX] at hx
       show (if z.toNat=0 then [] else clL (Y2 32 s.log z.toNat true)).length≤_
       by_cases h0:z.toNat=0
       · rw [if_pos h0];simp
       · rw [if_neg h0] at hx ⊢
         rw [W9]
         exact hx
theorem ZrO (a:Nat):ZQ E0 .gtr 3 (.int .i64 (a:Int)) (.int .i64 100)=some (.bool (decide (100<(a:Int)))):=rfl
theorem c4 {l:List Opp} (hl:∀ o,o∈l→o.ok) (bl:Bool) (name:Bs) (z:Int):∀ H,CallOk E0 Tryz.prog 4 [slV bl 3 (opC l),.str name,.int .i64 z] H (.bool true) H:=by
 have haw:=ZgM
 have q1:=ZrO name.length
 by_cases hn:100<(name.length:Int)
 · rw [decide_eq_true hn] at q1
   generalize opC l=OC
   refine Jw tOk fe4.ok rfl ?_
   repeat' first|refine Jc (haw _) ?_|refine Ji ?_|refine Jt ?_|refine Jo ?_|fail
   all_goals rfl
 · rw [decide_eq_false hn] at q1
   have cm:=c17 hl bl
   have hM:=(Zb7 l (i:=min l.length 10) (by omega)).mono (m:=10) (by omega)
   have hv:=ZeO l (min l.length 10)
   have ca:=c18 hM hv (name:=name) (by omega) z
   have cb:=Zq4 hM hv (name:=name) (by omega) z
   obtain ⟨r1,r2⟩:=Zkg hv name z
   have cs:=c20 r2 (ZnS hM hv name z) (Zmf hM name z)
   have q2:=Zl2 r1
   clear r1 r2 hM hv hn
   generalize Wr l (min l.length 10)=S at cm ca cb cs q2
   generalize ZiR S name z=A at ca cs q2
   generalize Zix S name z=B at cb cs q2
   generalize opC l=OC at cm ⊢
   obtain ⟨⟨n1,⟨k1,m1,s1,b1,l1⟩,i1,z1,⟨k2,m2,s2,b2,l2⟩,⟨k3,m3,s3,b3,l3⟩,ib1,in1,eb1,ex1⟩,e1⟩:=A
   obtain ⟨⟨n4,⟨k4,m4,s4,b4,l4⟩,i4,z4,⟨k5,m5,s5,b5,l5⟩,⟨k6,m6,s6,b6,l6⟩,ib4,in4,eb4,ex4⟩,e4⟩:=B
   obtain ⟨sn,⟨k,nm,zz,b,kids⟩,lb,log,kb,keys⟩:=S
   simp only [An.cells,Sv.cells,Tm.cells,List.cons_append,List.nil_append] at cm ca cb cs q2 ⊢
   refine Jw tOk fe4.ok rfl ?_
   repeat' first|(apply qCl;rfl;rfl;rfl;rfl;first|exact haw _|exact cm _|exact ca _|exact cb _|exact cs _)|refine Ji ?_|refine Jt ?_|refine Jo ?_|fail
   all_goals rfl
open Go.Proofs Go.Proofs.YtkaocdljkonfaaaGreatDoor Go.RowKit
theorem ZmO: "*" ++ "errors.errorString" = "*errors.errorString" :=by decide
theorem Zkd (u:TypeId) (h:Tryz.prog.typeName? 3 u=some "*errors.errorString"):u=247:=
 typeName_ptr_named (nm:= "errors.errorString") (by rw [ZmO];kernel_rfl) (by kernel_rfl) (by decide) u (by rw [ZmO];exact h)
theorem ZsG {W:World} (h:laidMetH Tryz.prog Rows.keyserviceIncludedRow.laid W):GOk E0 (wG W):=by
 have h:laidMet Tryz.prog Rows.keyserviceIncludedRow.laid W:=h
 have h2:=h.tail.tail
 have hT:Lib.TabIs Tryz.prog W "internal/strconv.uint64pow10" .u64 [1,10,100,1000,10000,100000,1000000,10000000,100000000,1000000000,10000000000,100000000000,1000000000000,10000000000000,100000000000000,1000000000000000,10000000000000000,100000000000000000,1000000000000000000,10000000000000000000]:=
  Lib.tabIs_of_head (g:=1) (t:=216) (e:=195) (n:=20) (by kernel_rfl) (by kernel_rfl) (by kernel_rfl) (by kernel_rfl) (by kernel_rfl) (by kernel_rfl) h2
 have h4:=h2.tail.tail
 obtain ⟨a1,s1,v1, -⟩:=laid_sentinel (g:=3) (ti:=163) h4 (by kernel_rfl) (by kernel_rfl) Tryz.underlying163 Zkd Tryz.underlying247 Tryz.underlying249 rfl rfl Tryz.underlying9 (by kernel_rfl) (by kernel_rfl)
 obtain ⟨a2,s2,v2, -⟩:=laid_sentinel (g:=2) (ti:=163) h4.tail (by kernel_rfl) (by kernel_rfl) Tryz.underlying163 Zkd Tryz.underlying247 Tryz.underlying249 rfl rfl Tryz.underlying9 (by kernel_rfl) (by kernel_rfl)
 refine ⟨fun k cs' hk=>?_,fun h=>by simp [wG] at h,fun k hk=>?_⟩
 · simp only [E0] at hk
   split at hk
   · rename_i hb
     obtain rfl:=Nat.eq_of_beq_eq_true hb
     cases hk
     refine .fptr Zc8 0 1 0 (fun j=>(W.cell? ⟨1,j,none⟩).getD undef) (fun j hj=>?_) (fun j hj=>?_)
     · have hl : j < 20 := by simpa [Zc8] using hj
       show wS W 1 (0+j)=_
       simp only [wS,Nat.zero_add]
       rw [hT.cell (by kernel_rfl) j (by simpa using hl)]
       rfl
     · have hl : j < 20 := by simpa [Zc8] using hj
       rw [hT.cell (by kernel_rfl) j (by simpa using hl)]
       match j,hl with
       | 0,_|1,_|2,_|3,_|4,_|5,_|6,_|7,_|8,_|9,_|10,_|11,_|12,_|13,_|14,_|15,_|16,_|17,_|18,_|19,_=>exact .int _ _
       | n+20,h=>exact absurd h (by omega)
   · cases hk
 · have hk : k = 2 ∨ k = 3 := by
     simp only [E0,List.any_cons,List.any_nil,Bool.or_false,Bool.or_eq_true] at hk
     rcases hk with e|e
     · exact .inl (Nat.eq_of_beq_eq_true e)
     · exact .inr (Nat.eq_of_beq_eq_true e)
   rcases hk with rfl|rfl
   · have c:=World.var?_cell (show Tryz.prog.globalNamed "strconv.ErrSyntax" = some 2 by kernel_rfl) v2 0
     exact ⟨_,_,c⟩
   · have c:=World.var?_cell (show Tryz.prog.globalNamed "strconv.ErrRange" = some 3 by kernel_rfl) v1 0
     exact ⟨_,_,c⟩
end Go.Vm.Seat
