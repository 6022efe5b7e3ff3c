/-
  What is written to a strings.Builder.
-/
import Derived.Test.YtnghnjdabbjcnaaGreatDoorVYj
set_option maxHeartbeats 0
set_option maxRecDepth 100000
namespace Go.Vm
end Go.Vm
namespace Go.Vm.Seat
open Go.Proofs
theorem e29:E0.T 29=some ⟨.slice 9,1,24,.nils⟩:=by kernel_rfl
theorem Zjq {L:List (List PV)} {k:Nat} (h:k≤L.length):Yf E0 29 (.sl .none 1 L) (some (.int .i64 (k:Int))) none none=some (.sl .none 1 (L.drop k)):=by
 have en:nat? (.int .i64 (k:Int))=some k:=by simp[nat?]
 simp only[Yf,e29,e9p,XP,ZbK,en,if_true];show(match(if k≤L.length then some k else none) with|some l=>some (PV.sl (Zcz .none L.length L.length none) 1 ((L.take L.length).drop l))|none=>none)=_;rw[if_pos h,List.take_length];show some (PV.sl (if L.length=L.length then .none else .none) 1 (L.drop k))=_;rw[if_pos rfl]
abbrev Zod (k a b d:Int):List PV:=[.int .i64 k,.int .i64 a,.int .i64 b,.nils,.int .i64 d,.nils]
end Go.Vm.Seat
namespace Go.Vm
end Go.Vm
namespace Go.Vm.Seat
open Go.Proofs
theorem Zs7:VY E0 100 60 ⟨60,[],.sl .none 1 [[.str []],[.str [115,116,97,114,116]],[.str [114,101,99,101,105,118,101]],[.str [115,101,110,100]],[.str [98,101,103,105,110]],[.str [99,108,97,105,109]],[.str [114,101,118,101,97,108]],[.str [116,105,109,101,111,117,116]]]⟩=true:=by kernel_rfl
theorem Zps:∀H,CO 60 [] H (.sl .none 1 [[.str []],[.str [115,116,97,114,116]],[.str [114,101,99,101,105,118,101]],[.str [115,101,110,100]],[.str [98,101,103,105,110]],[.str [99,108,97,105,109]],[.str [114,101,118,101,97,108]],[.str [116,105,109,101,111,117,116]]]) H:=XB tOk follows fOk zOk Zs7
theorem Uy {l:List ZY} (h:l≠ []) (b:Bool):slV b 1 (ZD l)= .sl .none 1 (ZD l):=by
 cases l with
 |nil=>exact absurd rfl h
 |cons x r=>exact Zp _ _ _ _
theorem Yp {k a b d:Int} {ags:List ZY} {te:List Tm} {o o5:PV} {lv lv':List Nat} {nt nt':Nat} (h:ApV true 1 (ZD ags) o lv nt) (h5:ApV true 4 (Za te) o5 lv' nt') (m:Nat) (H:Heap) (ok:Bool):frz3 m H (.tup [.agg [.int .i64 k,.int .i64 a,.int .i64 b,o,.int .i64 d,o5],.bool ok])=some (.tup [.agg (Mo.mk k a b true ags d true te).cells,.bool ok]):=by
 have h2:frz2 m H (.agg [.int .i64 k,.int .i64 a,.int .i64 b,o,.int .i64 d,o5])=some (.agg (Mo.mk k a b true ags d true te).cells):=by show(match Wr m H [.int .i64 k,.int .i64 a,.int .i64 b,o,.int .i64 d,o5] with|some cs'=>some (PV.agg cs')|none=>none)=_;simp only[Wr,h.frzC,h5.frzC];rfl
 rw[Xu];simp only[Wu,h2];rfl
theorem Zk5 {L:List (List PV)} {i:Nat} {cs:List PV} (h:L[i]? = some cs):Zy E0 29 (.sl .none 1 L) (.int .i64 (i:Int))=some (.fptr cs 0):=by
 have en:nat? (.int .i64 (i:Int))=some i:=by simp[nat?]
 simp only[Zy,e29,e9p,en,if_true,Zm,h]
theorem ZdY:ApV true 1 (ZD []) .nils [] 0:= .nil _ _ rfl
theorem Zd0:ApV true 4 (Za []) .nils [] 0:= .nil _ _ rfl
def ZvU (R:Option Mo) (r:PV) (H:Heap):Prop:=∃(x:Mo) (ok:Bool),R=(if ok=true then some x else none)∧frz3 0 H r=some (.tup [.agg x.cells,.bool ok])
end Go.Vm.Seat
namespace Go.Vm
variable {rd:ZY→Option Mo} {f:List Mo→Int×Int} {x:ZY} {r:List ZY} {m:Mo}
def ZoD (f:List Mo→Int×Int) (acc:List Mo):List Mo×Int×Int:=if(f acc).2≠0 then([],(f acc).1+1,(f acc).2) else(acc,0,0)
def ZcD (rd:ZY→Option Mo) (f:List Mo→Int×Int):List ZY→Nat→List Mo→List Mo×Int×Int
 | [],_,acc=>ZoD f acc
 | x :: r, n, acc => if r = [] then(if x = [] then ZoD f acc else([], (n : Int) + 1, 2)) else match rd x with
   | none=>([],(n:Int)+1,2)
   | some m=>ZcD rd f r (n+1) (acc++ [m])
theorem Q5 (rd:ZY→Option Mo) (f:List Mo→Int×Int) (x:ZY) (n:Nat) (acc:List Mo):ZcD rd f [x] n acc=if x= [] then ZoD f acc else([],(n:Int)+1,2):=by rw[ZcD,if_pos rfl]
theorem Znv (hr:r≠ []) (h:rd x=none) (n:Nat) (acc:List Mo):ZcD rd f (x::r) n acc=([],(n:Int)+1,2):=by rw[ZcD,if_neg hr,h]
theorem Zfe (hr:r≠ []) (h:rd x=some m) (n:Nat) (acc:List Mo):ZcD rd f (x::r) n acc=ZcD rd f r (n+1) (acc++ [m]):=by rw[ZcD,if_neg hr,h]
theorem Zfs (h:Wv m=true):m.agents.length≤4∧m.terms.length≤12:=by
 rw[← ZfM]at h;unfold ZoT at h;repeat' split at h
 all_goals first
  | (simp only[Bool.and_eq_true,decide_eq_true_eq]at h;omega)
  | cases h
theorem ZnX {s:ZY} {n:Nat} (h:ZlG s=some n):n≤999999:=by rw[ZpS]at h;split at h;{cases h;exact ZnN s};{cases h}
end Go.Vm
namespace Go.Vm.Seat
open Go.Proofs
theorem ZkJ {L:List (List PV)} {es:Nat} {o:PV} {lv:List Nat} {nt:Nat} (h:ApV true es L o lv nt) (a b:Int) (m:Nat) (H:Heap):frz3 m H (.tup [o,.int .i64 a,.int .i64 b])=some (.tup [slV true es L,.int .i64 a,.int .i64 b]):=by rw[Xu];simp only[Wu,h.frz2];rfl
theorem Zj8 (L:List (List PV)) (es:Nat) (a b:Int) (m:Nat) (H:Heap):frz3 m H (.tup [slV true es L,.int .i64 a,.int .i64 b])=some (.tup [slV true es L,.int .i64 a,.int .i64 b]):=by have h:=Zfo m H true es L;rw[Xu];simp only[Wu,h];rfl
end Go.Vm.Seat
namespace Go.Vm
inductive BdS (id:Nat):PV→PV→Bs→List Nat→Nat→Prop
 |no (lv:List Nat) (nt:Nat):BdS id .nilp .nils [] lv nt
 |tok (s:Bs) (k:Nat) (lv:List Nat) (nt:Nat) (hs:s≠ []) (hk:k∈lv) (hn:k<nt):BdS id (.ptr id 2 0 0) (.sl (.tok k) 1 (Zo s)) s lv nt
theorem W4 (a b:Bs):Zo (a++b)=Zo a++Zo b:=by simp[Zo]
theorem X9 (a:Bs):(Zo a).length=a.length:=by simp[Zo]
end Go.Vm
namespace Go.Vm.Seat
variable {bx:List Box} {B:Box} {lv:List Nat} {nt:Nat} {p v:PV} {s x:Bs}
open Go.Proofs
theorem ZlN:ApT E0 47 47 1 1:=⟨_,_,_,_,_,rfl,rfl,rfl,rfl,rfl,rfl,rfl,by decide,rfl⟩
theorem YV {id:Nat} (h:id<bx.length):nth (bx.set id B) id=some B:=by rw[Zm];simp[h]
theorem YI {id:Nat} (h:nth bx id=some B):id<bx.length:=by rw[Zm]at h;by_cases e:id<bx.length;{exact e};{rw[List.getElem?_eq_none (by omega)]at h;cases h}
theorem bCc {id:Nat} (hb:nth bx id=some (.sp 49 [p,v])) (hS:BdS id p v s lv nt):CO 39 [.ptr id 2 0 0] ⟨bx,0,lv,nt⟩ (.tup []) ⟨bx.set id (.sp 49 [.ptr id 2 0 0,v]),0,lv,nt⟩:=by
 refine(z39 [.ptr id 2 0 0] ⟨bx,0,lv,nt⟩ _ _ ?_).1;have hlt:=YI hb;cases hS with
 |no=>have:Nat.ble 0 id=true:=Nat.ble_eq_true_of_le (Nat.zero_le _);simp[ccZ,hb,this]
 |tok s k lv nt hs hk hn=>
  have e:bx.set id (.sp 49 [.ptr id 2 0 0,.sl (.tok k) 1 (Zo s)])=bx:=by rw[Zm]at hb;refine List.ext_getElem? fun j=>?_;rw[List.getElem?_set];split;{rename_i h;subst h;rw[hb]};{rfl}
  rw[e];simp[ccZ,hb]
theorem Zo0 {id:Nat} (hS:BdS id p v s lv nt) (hx:x≠ []) (hl:(s++x).length≤1000000):∃lv',∀bx ro,ZP E0 47 9 v (.str x) ⟨bx,ro,lv,nt⟩=some (.sl (.tok nt) 1 (Zo (s++x)),⟨bx,ro,nt::lv',nt+1⟩):=by
 have hT:Zcf E0 47=5:=by kernel_rfl
 have e1:E0.T 47=some ⟨.slice 5,1,24,.nils⟩:=by kernel_rfl
 have e2:E0.T 9=some ⟨.string,1,16,.str []⟩:=by kernel_rfl
 have e3:E0.T 5=some ⟨.int .u8,1,1,.int .u8 0⟩:=by kernel_rfl
 obtain⟨a,r,rfl⟩:=List.exists_cons_of_ne_nil hx;have hy:Zo (a::r)= [.int .u8 (Int.ofNat a.toNat)]::Zo r:=rfl;rw[List.length_append]at hl;cases hS with
 |no=>refine⟨lv,fun bx ro=>?_⟩;simp only[ZP,XK,e1,e2,e3,Wi,Zkt,List.length_cons,List.length_nil,PV.cells,and_self,if_true,List.nil_append];rw[hy];simp only[YD,List.nil_append,hT,Vf];rw[if_pos (by rw[ZR (by have h2:=X9 r;simp only[List.length_cons,List.length_nil]at hl ⊢;omega) (by decide)];rfl)]
 |tok s k lv nt hs hk hn=>obtain⟨b,q,rfl⟩:=List.exists_cons_of_ne_nil hs;obtain⟨l',h1, -⟩:=XC hk;refine⟨l',fun bx ro=>?_⟩;simp only[ZP,XK,e1,e2,e3,Wi,Zkt,List.length_cons,List.length_nil,PV.cells,and_self,if_true,W4];rw[hy];simp only[hT,Vf,h1];rw[if_pos (by rw[ZR (by have h2:=X9 r;have h3:=X9 (b::q);simp only[List.length_cons]at hl h3 ⊢;omega) (by decide)];rfl)]
theorem ZtJ {id:Nat} (hb:nth bx id=some (.sp 49 [p,v])) (hv:v= .nils∨∃k L,v= .sl (.tok k) 1 L):ZZ E0 47 (.ptr id 2 0 1) ⟨bx,0,lv,nt⟩=some v:=by
 have e1:E0.T 47=some ⟨.slice 5,1,24,.nils⟩:=by kernel_rfl
 rcases hv with rfl|⟨k,L,rfl⟩;{simp[ZZ,e1,Heap.rd,hb,Qe,XL]};{simp[ZZ,e1,Heap.rd,hb,Qe,XL]}
theorem ZtD {id:Nat} (hb:nth bx id=some (.sp 49 [p,v])) (x:PV):Heap.wr ⟨bx,0,lv,nt⟩ (.ptr id 2 0 1) [x]=some ⟨bx.set id (.sp 49 [p,x]),0,lv,nt⟩:=by simp[Heap.wr,hb,Heap.put]
theorem ZpV {id:Nat} (h:BdS id p v s lv nt):v= .nils∨∃k L,v= .sl (.tok k) 1 L:=by
 cases h with
 |no=>exact .inl rfl
 |tok=>exact .inr ⟨_,_,rfl⟩
theorem wrS {id:Nat} (hb:nth bx id=some (.sp 49 [p,v])) (hS:BdS id p v s lv nt) (hx:x≠ []) (hl:(s++x).length≤1000000):∃lv',CO 18 [.ptr id 2 0 0,.str x] ⟨bx,0,lv,nt⟩ (.tup [.int .i64 (x.length:Int),.nili]) ⟨bx.set id (.sp 49 [.ptr id 2 0 0,.sl (.tok nt) 1 (Zo (s++x))]),0,nt::lv',nt+1⟩:=by
 have hc:=bCc hb hS;obtain⟨lv',hap⟩:=Zo0 hS hx hl;refine⟨lv',?_⟩;have hlt:=YI hb;have hb2:nth (bx.set id (.sp 49 [.ptr id 2 0 0,v])) id=some (.sp 49 [.ptr id 2 0 0,v]):=YV hlt;have hld:=ZtJ (lv:=lv) (nt:=nt) hb2 (ZpV hS);have hwr:=ZtD (lv:=nt::lv') (nt:=nt+1) hb2 (.sl (.tok nt) 1 (Zo (s++x)));rw[List.set_set]at hwr;clear hb2 hb hS;refine ZU (own:=fun _=>false) tOk fe18.ok ?_;refine Wp.seq ?_;repeat' first|refine Jc hc ?_|refine JA ?_|refine Kf ?_|refine Jo ?_|fail
 all_goals exact RetE.ret rfl rfl rfl
theorem Zn9 {id:Nat} (hS:BdS id p v s lv nt) (c:UInt8) (hl:s.length+1≤1000000):∃lv',∀bx ro,ZP E0 47 47 v (.sl .full 1 [[.int .u8 (Int.ofNat c.toNat)]]) ⟨bx,ro,lv,nt⟩=some (.sl (.tok nt) 1 (Zo (s++ [c])),⟨bx,ro,nt::lv',nt+1⟩):=by
 have hT:Zcf E0 47=5:=by kernel_rfl
 have hz:ElV 1 (.sl .full 1 [[.int .u8 (Int.ofNat c.toNat)]]) [[.int .u8 (Int.ofNat c.toNat)]]:= .sl _ _ _;have hy:Zo [c]= [[.int .u8 (Int.ofNat c.toNat)]]:=rfl;cases hS with
 |no=>refine⟨lv,fun bx ro=>?_⟩;simp only[ZP,ZW ZlN hz rfl (s:= .nils) rfl rfl];simp only[YD,List.nil_append,hT,Vf,hy];rfl
 |tok s k lv nt hs hk hn=>obtain⟨b,q,rfl⟩:=List.exists_cons_of_ne_nil hs;obtain⟨l',h1, -⟩:=XC hk;refine⟨l',fun bx ro=>?_⟩;simp only[ZP,ZW ZlN hz rfl (s:= .sl (.tok k) 1 (Zo (b::q))) rfl rfl];simp only[hT,Vf,h1,W4,hy];rw[if_pos (by rw[ZR (by have h3:=X9 (b::q);simp only[List.length_cons,List.length_nil]at hl h3 ⊢;omega) (by decide)];rfl)]
theorem wrB {id:Nat} (hb:nth bx id=some (.sp 49 [p,v])) (hS:BdS id p v s lv nt) (hl:s.length+1≤1000000):∃lv',CO 116 [.ptr id 2 0 0,.int .u8 41] ⟨bx,0,lv,nt⟩ .nili ⟨bx.set id (.sp 49 [.ptr id 2 0 0,.sl (.tok nt) 1 (Zo (s++ [41]))]),0,nt::lv',nt+1⟩:=by
 have hc:=bCc hb hS;obtain⟨lv',hap⟩:=Zn9 hS 41 hl;refine⟨lv',?_⟩;have hlt:=YI hb;have hb2:nth (bx.set id (.sp 49 [.ptr id 2 0 0,v])) id=some (.sp 49 [.ptr id 2 0 0,v]):=YV hlt;have hld:=ZtJ (lv:=lv) (nt:=nt) hb2 (ZpV hS);have hwr:=ZtD (lv:=nt::lv') (nt:=nt+1) hb2 (.sl (.tok nt) 1 (Zo (s++ [41])));rw[List.set_set]at hwr;clear hb2 hb hS;refine ZU (own:=fun _=>false) tOk fe116.ok ?_;refine Wp.seq ?_;repeat' first|refine Jc hc ?_|refine Kw ?_|refine Kf ?_|refine Jo ?_|fail
 all_goals exact RetE.ret rfl rfl rfl
theorem Za1:∀s:Bs,WS (Zo s)=some s
 | []=>rfl
 |c::r=>by have:=Za1 r;have hc:decide ((c.toNat:Int)≤255)=true:=decide_eq_true (by have:=UInt8.toNat_lt c;omega);simp[Zo,WS]at this ⊢;simp[this,hc]
theorem ZtK {id:Nat} (hb:nth bx id=some (.sp 49 [p,v])) (hS:BdS id p v s lv nt) (hl:s.length≤1000000):∃lv',CO 20 [.ptr id 2 0 0] ⟨bx,0,lv,nt⟩ (.str s) ⟨bx,0,lv',nt⟩:=by
 cases hS with
 |no=>exact⟨lv,(z20 [.ptr id 2 0 0] ⟨bx,0,lv,nt⟩ _ _ (by simp[ZgN,hb])).1⟩
 |tok s k lv nt hs hk hn=>
  obtain⟨l',h1, -⟩:=XC hk;have h2:Nat.blt 0 s.length=true:=by
   cases s with
   | nil=>exact absurd rfl hs
   | cons c r=>rfl
  have h3:Nat.ble s.length 1000000=true:=Nat.ble_eq_true_of_le hl;exact⟨l',(z20 [.ptr id 2 0 0] ⟨bx,0,lv,nt⟩ _ _ (by simp[ZgN,hb,h1,Za1,h2,h3])).1⟩
