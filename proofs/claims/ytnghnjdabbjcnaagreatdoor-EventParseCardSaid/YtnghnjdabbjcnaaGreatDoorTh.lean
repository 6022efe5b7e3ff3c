/-
  The symbols of the theory, and the terms that it allows: the program's text.
-/
import Derived.Test.YtnghnjdabbjcnaaGreatDoorNa
import Derived.Shelf.Spec.SlicesGrow
import Derived.Test.YtnghnjdabbjcnaaGreatDoorOi
set_option maxHeartbeats 0
set_option maxRecDepth 100000
namespace Go.Vm.Seat
variable {i k n:Nat} {bx:List Box} {nm:List UInt8} {kz l:List Tm} {t:Tm}
open Go.Proofs Go.RowKit Go.Lib
theorem ZrY (n:Nat) (h0:0<n) (hn:n≤1000000) (w:World):Calls Tryz.prog 242 #[.slice none 0 0,.int .i64 (n:Int)] w fun e w'=>∃(G:Nat) (ROW:Array Value),n≤G∧G≤9223372036854775807∧ROW.size=G*4∧e= .returned (.slice (some ⟨w.heap.size,0,none⟩) 0 G)∧w'=w.drew.alloc (.cells ROW 39):=by
 have mixed:=follows;have hsz:(Tryz.prog.info? 39).map (·.size)=some 4:=by kernel_rfl
 have hbz:(Tryz.prog.info? 39).map (fun i=>(Nat.ble i.bytes 1000,i.zero.isSome,(i.zero.map (·.cells.size))))=some (true,true,some 4):=by kernel_rfl
 obtain⟨i0,hi0⟩:∃i,Tryz.prog.info? 39=some i:=by
  cases hq:Tryz.prog.info? 39 with
  | none=>simp[hq]at hsz
  | some i=>exact⟨i,rfl⟩
 have hzs:i0.size=4:=by simpa[hi0] using hsz
 simp only[hi0,Option.map_some,Option.some.injEq,Prod.mk.injEq]at hbz;obtain⟨hb0,hz0,hz7⟩:=hbz;obtain⟨z,hz0⟩:=Option.isSome_iff_exists.1 hz0;have hz7:z.cells.size=4:=by simpa[hz0] using hz7
 have hbytes:i0.bytes≤1000:=Nat.le_of_ble_eq_true hb0;have hbig:n*i0.bytes≤1000000000:=Nat.le_trans (Nat.mul_le_mul hn hbytes) (by decide);have hw1:IntKind.i64.wrap ((0:Int)-0)=0:=rfl;have hw2:IntKind.i64.wrap ((n:Int)-0)=(n:Int):=by rw[IntKind.wrap_i64];omega
 have hrz : ∀ty, (Builtin.append_ #[30, 3] ty #[.slice none 0 0, .int .i64 (n : Int)]).run Tryz.prog w =
   .ok (.slice (some ⟨w.heap.size,0,none⟩) n (grownCap w n 0 39)) (w.drew.alloc (.cells (#[]++Builtin.zeroCells z.cells n++Builtin.zeroCells z.cells (grownCap w n 0 39-n)) 39)):=fun ty=>by
  have h:=Lib.run_append_grow_zeros w 30 3 ty 39 i0 z .i64 .i64 Tryz.underlying30 Tryz.underlying3 hi0 hz0 none 0 0 [] (run_firstCells_none w.drew i0.size 0 0 0) n h0 (by omega) (by omega) (by omega) (by omega)
   (by rw[Nat.zero_add];exact growslice_fits (by omega) (by omega))
  rw[Nat.zero_add]at h
  exact h
 obtain⟨G,hG⟩:∃G,G=grownCap w n 0 39:=⟨_,rfl⟩;obtain⟨ROW,hROW⟩:∃ROW:Array Value,ROW= #[]++Builtin.zeroCells z.cells n++Builtin.zeroCells z.cells (G-n):=⟨_,rfl⟩;rw[← hG]at hrz;rw[← hROW]at hrz;have hGn:n≤G:=by rw[hG];exact grownCap_ge w _ _ _
 have hG63:G≤9223372036854775807:=by have:=grownCap_le_maxLen w n 0 39 (by unfold maxLen;omega);rw[← hG]at this;unfold maxLen at this;omega
 have hRs:ROW.size=G*4:=by rw[hROW];simp[Builtin.zeroCells,hz7];omega
 have h1:¬ ((n:Int)<0):=by omega
 have h4:(n:Int) > 0:=by omega
 clear hG hROW hbig;go_enter Tryz.func242,Tryz.ntmps242;go_wp2_with (at_builtin;refine Lib.wpList_append_run _ rfl _ _ _ _ rfl _ _ rfl rfl _ _ (hrz _) ?_);all_goals (go_ret;first|exact⟨G,ROW,hGn,hG63,hRs,rfl,rfl⟩|exact⟨G,hGn,hG63,ROW,hRs,rfl,rfl⟩)
theorem Zmb (h0:0<n) (hn:n≤1000000):CO 242 [.nils,.int .i64 (n:Int)] hNil (.own 0 4 0 0) ⟨[.cells 4 []],0,[],0⟩:=by intro g w vals hi hg hv;obtain⟨v0,v1,rfl,a0,a1⟩:=Xx hv;obtain rfl:=a0.nils_inv;obtain rfl:=a1.int_inv;have hf:FnOk Tryz.prog 242 fe242.fn fe242.c:=fe242.ok;rw[Zx hf];simp only[UponCall];refine Calls.mono (ZrY n h0 hn w) fun e w' ⟨G,ROW,g1,g2,g3,he,hw'⟩=>?_;subst he;subst hw';have hi1:Inv g hNil w.drew:=hi.same rfl;obtain⟨i1,k1⟩:=VU hi1 (.cells ROW 39) (.cells 4 []) rfl (fun es el h=>by cases h;exact⟨ROW,39,rfl,fun i hi=>absurd hi (by simp),by simp,fun i hi=>absurd hi (by simp)⟩) (fun es h=>by cases h) (G*4) (fun c T m h=>by cases h;omega);have k0:Keep g hNil w g hNil w.drew:= .same rfl (.rfls);refine⟨_,rfl,_,.own 0 4 0 0 w.heap.size G _ (by simp[Gh.link,hNil]) (Nat.zero_le _) (fun _=>by simp) rfl ⟨by simp[Gh.link,hNil],g2⟩,i1,KeepN.then k0 hi k1⟩
theorem Zp8 (w:World):Calls Tryz.prog 242 #[.slice none 0 0,.int .i64 0] w fun e w'=>e= .returned (.slice none 0 0)∧w'=w:=by have mixed:=follows;have hw1:IntKind.i64.wrap ((0:Int)-0)=0:=rfl;go_enter Tryz.func242,Tryz.ntmps242;go_wp2;all_goals (go_ret;exact⟨rfl,rfl⟩)
theorem Zts:CO 242 [.nils,.int .i64 0] hNil .nils hNil:=by intro g w vals hi hg hv;obtain⟨v0,v1,rfl,a0,a1⟩:=Xx hv;obtain rfl:=a0.nils_inv;obtain rfl:=a1.int_inv;have hf:FnOk Tryz.prog 242 fe242.fn fe242.c:=fe242.ok;rw[Zx hf];simp only[UponCall];refine Calls.mono (Zp8 w) fun e w' ⟨he,hw'⟩=>?_;subst he;subst hw';exact⟨_,rfl,g,.pure _ _ .nils,hi,KeepN.refl _ _ _ _⟩
theorem Wx:∀l:List Tm,Yt (Za l)=some (Za l)
 | []=>rfl
 | .mk k nm s b kz::r=>by simp only[Za,Tm.cells,Yt,XK,Wx r]
theorem ZkW (H:Heap) (l:List Tm) (n k:Nat) (hk:k=l.length) (hn:l≠ []) (hH:nth H.bx n=some (.cells 4 (Za l))):frz3 0 H (.own n 4 0 k)=some (slV true 4 (Za l)):=by
 have hl:(Za l).length=k:=by rw[Zb,hk]
 have h1:((Za l).drop 0).take k=Za l:=by rw[List.drop_zero, ← hl,List.take_length]
 have e:slV true 4 (Za l)= .sl .none 4 (Za l):=by
  cases l with
  | nil=>exact absurd rfl hn
  | cons a r =>
    obtain⟨k,nm,s,b,kz⟩:=a
    exact Zr _ _ _ _
 rw[e];show frzC 0 H (.own n 4 0 k)=_;simp only[frzC,Nat.not_lt_zero,if_false,hH,true_and,Nat.zero_add,hl,Nat.le_refl,if_true,h1,Wx]
theorem ZmI {L M:List Tm} (hn:L.length=n) (hb:bx[k]? = some (.cells 4 (Za L))) (hM:M≠ []) (hl:n+M.length≤1000000) (b:Bool):ZL E0 30 30 (.own k 4 0 n) (slV b 4 (Za M)) ⟨bx,0,[],0⟩=some (.own bx.length 4 0 (n+M.length),⟨bx.set k .dead++ [.cells 4 (Za (L++M))],0,[],0⟩):=by
 have hs:YR ⟨bx,0,[],0⟩ (.own k 4 0 n)=some (Za L):=by have hnth:nth bx k=some (.cells 4 (Za L)):=(Zj _ _).trans hb;simp only[YR,hnth];rw[if_pos ⟨trivial,by rw[Zb];omega⟩,List.drop_zero, ← hn, ← Zb L,List.take_length,Wx]
 have he:=ZY (s:= .own k 4 0 n) YD (ElV.slV b 4 (Za M)) (Zs _) rfl rfl ⟨bx,0,[],0⟩;have hM2:=Zb M;cases hE:Za M with
 |nil=>rw[hE]at hM2;exact absurd (List.length_eq_zero_iff.1 hM2.symm) hM
 |cons y yr=>rw[hE]at he hM2;simp only[ZL,he,YH,W8,hs];rw[if_pos ⟨trivial,Nat.zero_le _,by rw[Zb,hn],ZQ (by rw[Zb,hM2];omega) (by decide)⟩,Zb,hM2,hn,Zt,hE]
theorem ZmY (b:Bool):ZL E0 30 30 (.own k 4 0 n) (slV b 4 (Za [])) ⟨bx,0,[],0⟩=some (.own k 4 0 n,⟨bx,0,[],0⟩):=by have he:=ZY (s:= .own k 4 0 n) YD (ElV.slV b 4 (Za [])) (Zs _) rfl rfl ⟨bx,0,[],0⟩;simp only[ZL,he];rfl
theorem Zuq {a b:List Tm} (hl:a.length+b.length≤1000000) (ba bb:Bool):∀H,CO 226 [.sl .none 1 [[slV ba 4 (Za a)],[slV bb 4 (Za b)]]] H (slV true 4 (Za (a++b))) H:=by
 refine Jw tOk fe226.ok (ZJ _ _ _ _ _) ?_;have b1:YS E0 .add 3 (.int .i64 0) (.int .i64 ((Za a).length:Int))=some (.int .i64 (a.length:Int)):=by rw[Zb];show some (PV.int .i64 (IntKind.i64.wrap (0+(a.length:Int))))=_;rw[IntWalk.i64_in _ (by omega),Int.zero_add]
 have b2:YS E0 .add 3 (.int .i64 (a.length:Int)) (.int .i64 ((Za b).length:Int))=some (.int .i64 ((a.length+b.length:Nat):Int)):=by rw[Zb];show some (PV.int .i64 (IntKind.i64.wrap ((a.length:Int)+(b.length:Int))))=_;rw[IntWalk.i64_in _ (by omega)];congr 2
 have b3:YS E0 .lss 3 (.int .i64 (a.length:Int)) (.int .i64 0)=some (.bool false):=by show some (PV.bool (decide ((a.length:Int)<0)))=_;rw[decide_eq_false (by omega)]
 have b4:YS E0 .lss 3 (.int .i64 ((a.length+b.length:Nat):Int)) (.int .i64 0)=some (.bool false):=by show some (PV.bool (decide (((a.length+b.length:Nat):Int)<0)))=_;rw[decide_eq_false (by omega)]
 have go1:=Zmb (n:=a.length+b.length);by_cases h0:a.length+b.length=0
 ·have ea:a= []:=List.length_eq_zero_iff.1 (by omega);have eb:b= []:=List.length_eq_zero_iff.1 (by omega);rw[h0]at b2 b4;have hg:=Zts;clear go1 h0;subst ea eb;have hap:∀f,ZL E0 30 30 .nils (slV f 4 (Za [])) hNil=some (.nils,hNil):=fun f=>by have he:=ZY (s:= .nils) YD (ElV.slV f 4 (Za [])) (Zs _) rfl rfl hNil;simp only[ZL,he];rfl
  have hap1:=hap ba;have hap2:=hap bb;rw[show slV true 4 (Za ([]++ []))= .nils from Zi 4];repeat' first|refine Jo ?_|fail
  refine Wp.loop ?_;repeat' first|refine Kf ?_|refine Kh ?_|fail
  refine LoopQ.go ?_;refine Wp.loop ?_;repeat' first|refine Kf ?_|refine Kh ?_|fail
  refine LoopQ.go ?_;refine Wp.loop ?_;repeat' first|refine Kk ?_|fail
  refine LoopQ.exit ?_;repeat' first|refine Jc hg ?_|refine Jo ?_|fail
  refine Wp.loop ?_;repeat' first|refine JA ?_|refine Kh ?_|fail
  refine LoopQ.go ?_;refine Wp.loop ?_;repeat' first|refine JA ?_|refine Kh ?_|fail
  refine LoopQ.go ?_;refine Wp.loop ?_;repeat' first|refine Kk ?_|fail
  refine LoopQ.exit ?_;repeat' first|refine Jo ?_|fail
  rfl
 ·have hg:=go1 (by omega) hl;clear go1;obtain⟨A,lA,hapA,hA⟩:∃(A:Nat) (bx:List Box),ZL E0 30 30 (.own 0 4 0 0) (slV ba 4 (Za a)) ⟨[.cells 4 []],0,[],0⟩=some (.own A 4 0 a.length,⟨bx,0,[],0⟩)∧bx[A]? = some (.cells 4 (Za a)):=by by_cases e:a= [];{subst e;exact⟨0,_,ZmY ba,rfl⟩};{have:=ZmI (bx:=[.cells 4 []]) (k:=0) (L:=[]) (M:=a) (n:=0) rfl rfl e (by omega) ba;rw[Nat.zero_add]at this;exact⟨_,_,this,rfl⟩}
  obtain⟨B,lB,hapB,hB⟩:∃(B:Nat) (bx:List Box),ZL E0 30 30 (.own A 4 0 a.length) (slV bb 4 (Za b)) ⟨lA,0,[],0⟩=some (.own B 4 0 (a.length+b.length),⟨bx,0,[],0⟩)∧bx[B]? = some (.cells 4 (Za (a++b))):=by by_cases e:b= [];{subst e;refine⟨A,lA,?_,by rw[List.append_nil];exact hA⟩;rw[ZmY];rfl};{exact⟨_,_,ZmI rfl hA e hl bb,by rw[List.getElem?_append_right (by simp)];simp⟩}
  have hfr:∀m,frz3 m ⟨lB,0,[],0⟩ (.own B 4 0 (a.length+b.length))=frz3 m ⟨lB,0,[],0⟩ (.own B 4 0 (a.length+b.length)):=fun _=>rfl;have hfr:=ZkW ⟨lB,0,[],0⟩ (a++b) B (a.length+b.length) (by simp) (fun e=>h0 (by rw[← List.length_append,e];rfl)) ((Zj _ _).trans hB);repeat' first|refine Jo ?_|fail
  refine Wp.loop ?_;repeat' first|refine Kf ?_|refine Kh ?_|fail
  refine LoopQ.go ?_;refine Wp.loop ?_;repeat' first|refine Kf ?_|refine Kh ?_|fail
  refine LoopQ.go ?_;refine Wp.loop ?_;repeat' first|refine Kk ?_|fail
  refine LoopQ.exit ?_;repeat' first|refine Jc hg ?_|refine Jo ?_|fail
  refine Wp.loop ?_;repeat' first|refine JA ?_|refine Kh ?_|fail
  refine LoopQ.go ?_;refine Wp.loop ?_;repeat' first|refine JA ?_|refine Kh ?_|fail
  refine LoopQ.go ?_;refine Wp.loop ?_;repeat' first|refine Kk ?_|fail
  refine LoopQ.exit ?_;repeat' first|refine Jo ?_|fail
  exact hfr
theorem Zvy:∀H,CO 191 [] H (slV true 4 (ZcW Zbj)) H:=by have e:slV true 4 (ZcW Zbj)= .sl .none 4 (ZcW Zbj):=Zr _ _ _ _;rw[e];exact XD (x:=⟨191,[],.sl .none 4 (ZcW Zbj)⟩) tOk follows fOk zOk (fuel:=100) (k:=20) (by kernel_rfl)
theorem QB {l:List Sym} {s:Sym} (h:l[i]? = some s):Vg nm (l.drop i)=if(s.name==nm)=true then some s else Vg nm (l.drop (i+1)):=by rw[ZB h];simp only[Vg]
theorem Zux (nm:List UInt8):∀H,CO 165 [.str nm] H (.agg (YI nm).cells) H:=by
 have hc:=Zvy;obtain⟨l,hl⟩:∃l,l=Zbj:=⟨_,rfl⟩;have hlen:l.length=21:=by rw[hl];rfl
 unfold YI;rw[← hl]at hc ⊢;refine Jw tOk fe165.ok rfl ?_;repeat' first|refine Jc (hc _) ?_|refine KS ?_|fail
 refine Wp.while (fun m tm H=>∃(i:Nat),∃base,i+m=l.length∧Vg nm l=Vg nm (l.drop i)∧tm=ovr base [(0,.str nm),(2,.ptr 0 4 0 0),(5,slV true 4 (ZcW l)),(6,.int .i64 (l.length:Int)),(7,.int .i64 (i:Int))]∧H=⟨[.cells 4 [[.str [],.int .i64 0,.int .i64 0,.int .i64 0]]],0,[],0⟩)
  (fun m tm H hI=>Wp.drop ?_) l.length _ _ ⟨0,_,by omega,by simp,Zd ⟨rfl,rfl,rfl,Zg (by rw[U8]),rfl,trivial⟩,rfl⟩
 clear hc hl;obtain⟨i,base,hi,hgo,rfl,rfl⟩:=hI;rw[hgo];by_cases hlt:i<l.length
 ·obtain⟨s,hs⟩:∃s,l[i]? = some s:=⟨l[i],by simp⟩;rw[QB hs];obtain⟨sn,sl,sm,sk⟩:=s;have hj:(ZcW l)[i]? = some [.str sn,.int .i64 sl,.int .i64 sm,.int .i64 sk]:=ZcF hs;repeat' first|refine Jx ?_|refine Jb ?_ ?_|refine Jz ?_ ?_|refine Jo ?_|intro hb
  {rw[if_pos (by simpa using hb)];rfl}
  ·rw[if_neg (by simpa using hb)];exact DropQ.go [(0,.str nm),(2,.ptr 0 4 0 0),(5,slV true 4 (ZcW l)),(6,.int .i64 (l.length:Int)),(7,.int .i64 ((i+1:Nat):Int))] ⟨rfl,rfl,rfl,rfl,Zg (Ze (n:=i+1) (by omega)),trivial⟩
    (by simp[Zl,under]) rfl (by simp[Ys,ZC,under]) (LoopI.go (m-1) (by omega) ⟨i+1,_,by omega,rfl,rfl,rfl⟩)
  {exfalso;simp at hb;omega}
 ·have e:i=l.length:=by omega
  subst e;repeat' first|refine Jz ?_ ?_|refine Jo ?_|intro hb
  {exfalso;simp at hb};{rw[List.drop_length];rfl}
theorem U9 {e:Int} (h:l[i]? = some t) (he:t.th=e):thL (l.drop i)=if e≠0 then e else thL (l.drop (i+1)):=by rw[ZB h];simp only[thL,he]
def YZ (t:Tm):Bool:=match t with| .mk k _ s _ _=> !(decide (k=3))&&decide (s=1)
theorem ZaM (h:nm≠ [110,101,119]):UF nm kz=kz.all YZ:=by unfold UF;rw[if_neg h];rfl
theorem Zuu {b:Bool} (h:kz[i]? = some t):Zz E0 30 (slV b 4 (Za kz)) (.int .i64 (i:Int))=some (.fptr t.cells 0):=by refine Wl (E:=E0) (t:=30) (e:=39) rfl rfl rfl rfl b ?_;obtain⟨k,nm,s,b',kz'⟩:=t;exact Zk h
theorem Zb9 {p:Tm→Bool} (h:l[i]? = some t):(l.drop i).all p=(p t&&(l.drop (i+1)).all p):=by rw[ZB h];rfl
theorem ZvO (ht:t.Ok):∀H,CO 159 [.agg t.cells] H (.int .i64 t.th) H:=by
 induction ht with
 | @mk k nm s b kz hk hs hn hl hok ih=>
 have hc:=Zux nm;obtain⟨R,hR⟩:∃R,R=(Tm.mk k nm s b kz).th:=⟨_,rfl⟩;rw[← hR];simp only[Tm.th]at hR;have hp:=Zh2 (nm:=nm);obtain⟨sn,sl,sm,sk,sy⟩:∃sn sl sm sk,YI nm=⟨sn,sl,sm,sk⟩:=⟨_,_,_,_,rfl⟩;rw[sy]at hc hR hp;simp only[]at hR hp;refine Jw tOk fe159.ok rfl ?_;repeat' first|refine Jk ?_|refine Jc (hc _) ?_|refine Ky ?_|refine Jb ?_ ?_|refine Jo ?_|intro hb
 all_goals first
  | (rw[hR,if_pos (by simpa using hb)];done)
  | (rw[hR,if_neg (by simpa using ‹(k != 3)=false›),if_pos (by simpa using hb)];done)
  | (rw[hR,if_neg (by simpa using ‹(k != 3)=false›),if_neg (by simpa using ‹((Sym.mk sn sl sm sk).kind==0)=false›),if_pos (by rw[Zb]at hb;simp at hb;omega)];done)
  | skip
 all_goals
  rw[if_neg (by simpa using ‹(k != 3)=false›),if_neg (by simpa using ‹((Sym.mk sn sl sm sk).kind==0)=false›),if_neg (by
   have h1:= ‹decide (((Za kz).length:Int)<(Sym.mk sn sl sm sk).least)=false›
   have h2:= ‹decide ((Sym.mk sn sl sm sk).most<((Za kz).length:Int))=false›
   rw[Zb]at h1 h2
   simp at h1 h2
   omega)]at hR
  clear hc
  unfold maxLen at hl
 ·have e:nm= [115,107]:=by simpa using hb
  have hsk:sk=2:=hp.2 (by simp[e]);rw[ZaM (by rw[e];simp)]at hR;refine Wp.while (fun m tm H=>∃(i:Nat),∃base,i+m=kz.length∧kz.all YZ=(kz.drop i).all YZ∧tm=ovr base [(1,.ptr 0 4 0 0),(38,slV b 4 (Za kz)),(39,.int .i64 (kz.length:Int)),(40,.int .i64 (i:Int))]∧H=⟨[.cells 4 [[.int .i64 k,.str nm,.int .i64 s,slV b 4 (Za kz)]],.cells 4 [[.str sn,.int .i64 sl,.int .i64 sm,.int .i64 sk]]],0,[],0⟩)
   (fun m tm H hI=>Wp.drop ?_) kz.length _ _ ⟨0,_,by omega,by simp,Zd ⟨rfl,rfl,Zg (by rw[Zb]),rfl,trivial⟩,rfl⟩
  obtain⟨i,base,hi,hall,rfl,rfl⟩:=hI;by_cases hlt:i<kz.length
  ·obtain⟨t',ht'⟩:∃t',kz[i]? = some t':=⟨kz[i],by simp⟩;rw[Zb9 ht']at hall;obtain⟨k',nm',s',b',kz'⟩:=t';have hj:=Zk ht';(repeat' first|refine Jk ?_|refine KJ ?_|refine Jb ?_ ?_|refine Jz ?_ ?_|refine Jo ?_|intro hb);{rw[hR,if_pos ⟨hsk,by rw[hall];simp at hb;simp[YZ,hb]⟩]};{rw[hR,if_pos ⟨hsk,by rw[hall];simp at hb;simp[YZ,hb]⟩]}
   ·(have hA : YZ (Tm.mk k' nm' s' b' kz') = true := by have h1:= ‹(k'==3)=false›;have h2:= ‹(s' != 1)=false›;simp at h1 h2;simp[YZ,h1,h2]);rw[hA,Bool.true_and]at hall;exact DropQ.go [(1,.ptr 0 4 0 0),(38,slV b 4 (Za kz)),(39,.int .i64 (kz.length:Int)),(40,.int .i64 ((i+1:Nat):Int))] ⟨rfl,rfl,rfl,Zg (Ze (n:=i+1) (by omega)),trivial⟩
     (by simp[Zl,under]) rfl (by simp[Ys,ZC,Zl,under]) (LoopI.go (m-1) (by omega) ⟨i+1,_,by omega,hall,rfl,rfl⟩)
   {exfalso;simp at hb;omega}
  ·(have e : i = kz.length := by omega);subst e;(repeat' first|refine Jl ?_|refine Jz ?_ ?_|refine Jo ?_|intro hb);{exfalso;simp at hb};(have hall:kz.all YZ=true:=by rw[hall,List.drop_length];rfl);rw[if_neg (by simp[hall])]at hR;refine Wp.while (fun m tm H=>∃(i:Nat),∃base,i+m=kz.length∧R=thL (kz.drop i)∧tm=ovr base [(62,slV b 4 (Za kz)),(63,.int .i64 (kz.length:Int)),(64,.int .i64 (i:Int))]∧H=⟨[.cells 4 [[.int .i64 k,.str nm,.int .i64 s,slV b 4 (Za kz)]],.cells 4 [[.str sn,.int .i64 sl,.int .i64 sm,.int .i64 sk]]],0,[],0⟩)
    (fun m tm H hI=>Wp.drop ?_) kz.length _ _ ⟨0,_,by omega,by simpa using hR,Zd ⟨rfl,Zg (by rw[Zb]),rfl,trivial⟩,rfl⟩
   clear hR;obtain⟨i,base,hi,hR,rfl,rfl⟩:=hI;by_cases hlt:i<kz.length
   ·obtain⟨t',ht'⟩:∃t',kz[i]? = some t':=⟨kz[i],by simp⟩;have hm:t'∈kz:=List.mem_of_getElem? ht';have hc:=ih t' hm;obtain⟨e1,he1⟩:∃e1,t'.th=e1:=⟨_,rfl⟩;rw[he1]at hc;rw[U9 ht' he1]at hR;obtain⟨k',nm',s',b',kz'⟩:=t';have hj:=Zk ht';(repeat' first|refine Jc (hc _) ?_|refine Jx ?_|refine Jb ?_ ?_|refine Jz ?_ ?_|refine Jo ?_|intro hb);{rw[hR,if_pos (by simpa using hb)]}
    ·rw[if_neg (by simpa using hb)]at hR;exact DropQ.go [(62,slV b 4 (Za kz)),(63,.int .i64 (kz.length:Int)),(64,.int .i64 ((i+1:Nat):Int))] ⟨rfl,rfl,Zg (Ze (n:=i+1) (by omega)),trivial⟩
      (by simp[Zl,under]) rfl (by simp[Ys,ZC,Zl,under]) (LoopI.go (m-1) (by omega) ⟨i+1,_,by omega,hR,rfl,rfl⟩)
    {exfalso;first|(simp at hb;omega)|(simp at hb hlt;omega)}
   {(have e:i=kz.length:=by omega);subst e;(repeat' first|refine Jz ?_ ?_|refine Jo ?_|intro hb);{exfalso;simp at hb};{rw[hR,List.drop_length];simp[thL]}}
 ·have e:nm= [115,104,107]:=by simpa using hb
  have hsk:sk=2:=hp.2 (by simp[e]);rw[ZaM (by rw[e];simp)]at hR;refine Wp.while (fun m tm H=>∃(i:Nat),∃base,i+m=kz.length∧kz.all YZ=(kz.drop i).all YZ∧tm=ovr base [(1,.ptr 0 4 0 0),(38,slV b 4 (Za kz)),(39,.int .i64 (kz.length:Int)),(40,.int .i64 (i:Int))]∧H=⟨[.cells 4 [[.int .i64 k,.str nm,.int .i64 s,slV b 4 (Za kz)]],.cells 4 [[.str sn,.int .i64 sl,.int .i64 sm,.int .i64 sk]]],0,[],0⟩)
   (fun m tm H hI=>Wp.drop ?_) kz.length _ _ ⟨0,_,by omega,by simp,Zd ⟨rfl,rfl,Zg (by rw[Zb]),rfl,trivial⟩,rfl⟩
  obtain⟨i,base,hi,hall,rfl,rfl⟩:=hI;by_cases hlt:i<kz.length
  ·obtain⟨t',ht'⟩:∃t',kz[i]? = some t':=⟨kz[i],by simp⟩;rw[Zb9 ht']at hall;obtain⟨k',nm',s',b',kz'⟩:=t';have hj:=Zk ht';(repeat' first|refine Jk ?_|refine KJ ?_|refine Jb ?_ ?_|refine Jz ?_ ?_|refine Jo ?_|intro hb);{rw[hR,if_pos ⟨hsk,by rw[hall];simp at hb;simp[YZ,hb]⟩]};{rw[hR,if_pos ⟨hsk,by rw[hall];simp at hb;simp[YZ,hb]⟩]}
   ·(have hA : YZ (Tm.mk k' nm' s' b' kz') = true := by have h1:= ‹(k'==3)=false›;have h2:= ‹(s' != 1)=false›;simp at h1 h2;simp[YZ,h1,h2]);rw[hA,Bool.true_and]at hall;exact DropQ.go [(1,.ptr 0 4 0 0),(38,slV b 4 (Za kz)),(39,.int .i64 (kz.length:Int)),(40,.int .i64 ((i+1:Nat):Int))] ⟨rfl,rfl,rfl,Zg (Ze (n:=i+1) (by omega)),trivial⟩
     (by simp[Zl,under]) rfl (by simp[Ys,ZC,Zl,under]) (LoopI.go (m-1) (by omega) ⟨i+1,_,by omega,hall,rfl,rfl⟩)
   {exfalso;simp at hb;omega}
  ·(have e : i = kz.length := by omega);subst e;(repeat' first|refine Jl ?_|refine Jz ?_ ?_|refine Jo ?_|intro hb);{exfalso;simp at hb};(have hall:kz.all YZ=true:=by rw[hall,List.drop_length];rfl);rw[if_neg (by simp[hall])]at hR;refine Wp.while (fun m tm H=>∃(i:Nat),∃base,i+m=kz.length∧R=thL (kz.drop i)∧tm=ovr base [(62,slV b 4 (Za kz)),(63,.int .i64 (kz.length:Int)),(64,.int .i64 (i:Int))]∧H=⟨[.cells 4 [[.int .i64 k,.str nm,.int .i64 s,slV b 4 (Za kz)]],.cells 4 [[.str sn,.int .i64 sl,.int .i64 sm,.int .i64 sk]]],0,[],0⟩)
    (fun m tm H hI=>Wp.drop ?_) kz.length _ _ ⟨0,_,by omega,by simpa using hR,Zd ⟨rfl,Zg (by rw[Zb]),rfl,trivial⟩,rfl⟩
   clear hR;obtain⟨i,base,hi,hR,rfl,rfl⟩:=hI;by_cases hlt:i<kz.length
   ·obtain⟨t',ht'⟩:∃t',kz[i]? = some t':=⟨kz[i],by simp⟩;have hm:t'∈kz:=List.mem_of_getElem? ht';have hc:=ih t' hm;obtain⟨e1,he1⟩:∃e1,t'.th=e1:=⟨_,rfl⟩;rw[he1]at hc;rw[U9 ht' he1]at hR;obtain⟨k',nm',s',b',kz'⟩:=t';have hj:=Zk ht';(repeat' first|refine Jc (hc _) ?_|refine Jx ?_|refine Jb ?_ ?_|refine Jz ?_ ?_|refine Jo ?_|intro hb);{rw[hR,if_pos (by simpa using hb)]}
    ·rw[if_neg (by simpa using hb)]at hR;exact DropQ.go [(62,slV b 4 (Za kz)),(63,.int .i64 (kz.length:Int)),(64,.int .i64 ((i+1:Nat):Int))] ⟨rfl,rfl,Zg (Ze (n:=i+1) (by omega)),trivial⟩
      (by simp[Zl,under]) rfl (by simp[Ys,ZC,Zl,under]) (LoopI.go (m-1) (by omega) ⟨i+1,_,by omega,hR,rfl,rfl⟩)
    {exfalso;first|(simp at hb;omega)|(simp at hb hlt;omega)}
   {(have e:i=kz.length:=by omega);subst e;(repeat' first|refine Jz ?_ ?_|refine Jo ?_|intro hb);{exfalso;simp at hb};{rw[hR,List.drop_length];simp[thL]}}
 ·have e:nm= [110,101,119]:=by simpa using hb
  subst e;obtain⟨rfl,rfl,rfl,rfl⟩:sn= [110,101,119]∧sl=1∧sm=8∧sk=2:=by have:YI [110,101,119]=⟨[110,101,119],1,8,2⟩:=rfl;rw[this]at sy;cases sy;exact⟨rfl,rfl,rfl,rfl⟩
  obtain⟨a,r,rfl⟩:∃a r,kz=a::r:=by
   cases kz with
   | nil =>
     exfalso
     have h1:= ‹decide (((Za []).length:Int)<_)=false›
     rw[Zb]at h1
     simp at h1
   | cons a r=>exact⟨a,r,rfl⟩
  obtain⟨ka,na,sa,ba,la⟩:=a;have hj:=Zuu (b:=b) (show(Tm.mk ka na sa ba la::r)[0]? = some (Tm.mk ka na sa ba la) from rfl);repeat' first|refine JJ ?_|refine Jl ?_|refine Jb ?_ ?_|refine Jo ?_|intro hb
  {rw[hR,if_pos ⟨rfl,by simp at hb;simp[UF,hb]⟩]}
  ·rw[if_neg (by simp at hb; simp[UF, hb])]at hR;clear hj;refine Wp.while (fun m tm H=>∃(i:Nat),∃base,i+m=(Tm.mk ka na sa ba la::r).length∧R=thL ((Tm.mk ka na sa ba la::r).drop i)∧tm=ovr base [(62,slV b 4 (Za (Tm.mk ka na sa ba la::r))),(63,.int .i64 ((Tm.mk ka na sa ba la::r).length:Int)),(64,.int .i64 (i:Int))]∧H=⟨[.cells 4 [[.int .i64 k,.str [110,101,119],.int .i64 s,slV b 4 (Za (Tm.mk ka na sa ba la::r))]],.cells 4 [[.str [110,101,119],.int .i64 1,.int .i64 8,.int .i64 2]]],0,[],0⟩)
    (fun m tm H hI=>Wp.drop ?_) (Tm.mk ka na sa ba la::r).length _ _ ⟨0,_,by omega,by simpa using hR,Zd ⟨rfl,Zg (by rw[Zb]),rfl,trivial⟩,rfl⟩
   clear hR;obtain⟨i,base,hi,hR,rfl,rfl⟩:=hI;by_cases hlt:i<(Tm.mk ka na sa ba la::r).length
   ·obtain⟨t',ht'⟩:∃t',(Tm.mk ka na sa ba la::r)[i]? = some t':=⟨(Tm.mk ka na sa ba la::r)[i],by simp⟩;have hm:t'∈(Tm.mk ka na sa ba la::r):=List.mem_of_getElem? ht';have hc:=ih t' hm;obtain⟨e1,he1⟩:∃e1,t'.th=e1:=⟨_,rfl⟩;rw[he1]at hc;rw[U9 ht' he1]at hR;obtain⟨k',nm',s',b',kz'⟩:=t';have hj:=Zk ht';(repeat' first|refine Jc (hc _) ?_|refine Jx ?_|refine Jb ?_ ?_|refine Jz ?_ ?_|refine Jo ?_|intro hb);{rw[hR,if_pos (by simpa using hb)]}
    ·rw[if_neg (by simpa using hb)]at hR;exact DropQ.go [(62,slV b 4 (Za (Tm.mk ka na sa ba la::r))),(63,.int .i64 ((Tm.mk ka na sa ba la::r).length:Int)),(64,.int .i64 ((i+1:Nat):Int))] ⟨rfl,rfl,Zg (Ze (n:=i+1) (by omega)),trivial⟩
      (by simp[Zl,under]) rfl (by simp[Ys,ZC,Zl,under]) (LoopI.go (m-1) (by omega) ⟨i+1,_,by omega,hR,rfl,rfl⟩)
    {exfalso;first|(simp at hb;omega)|(simp at hb hlt;omega)}
   {(have e:i=(Tm.mk ka na sa ba la::r).length:=by omega);subst e;(repeat' first|refine Jz ?_ ?_|refine Jo ?_|intro hb);{exfalso;simp at hb};{rw[hR,List.drop_length];simp[thL]}}
 ·have hR:R=thL kz:=by rw[hR,if_neg];rintro⟨h1,h2⟩;rcases hp.1 h1 with e|e|e<;>(subst e;simp at *)
  refine Wp.while (fun m tm H=>∃(i:Nat),∃base,i+m=kz.length∧R=thL (kz.drop i)∧tm=ovr base [(62,slV b 4 (Za kz)),(63,.int .i64 (kz.length:Int)),(64,.int .i64 (i:Int))]∧H=⟨[.cells 4 [[.int .i64 k,.str nm,.int .i64 s,slV b 4 (Za kz)]],.cells 4 [[.str sn,.int .i64 sl,.int .i64 sm,.int .i64 sk]]],0,[],0⟩)
   (fun m tm H hI=>Wp.drop ?_) kz.length _ _ ⟨0,_,by omega,by simpa using hR,Zd ⟨rfl,Zg (by rw[Zb]),rfl,trivial⟩,rfl⟩
  clear hR;obtain⟨i,base,hi,hR,rfl,rfl⟩:=hI;by_cases hlt:i<kz.length
  ·obtain⟨t',ht'⟩:∃t',kz[i]? = some t':=⟨kz[i],by simp⟩;have hm:t'∈kz:=List.mem_of_getElem? ht';have hc:=ih t' hm;obtain⟨e1,he1⟩:∃e1,t'.th=e1:=⟨_,rfl⟩;rw[he1]at hc;rw[U9 ht' he1]at hR;obtain⟨k',nm',s',b',kz'⟩:=t';have hj:=Zk ht';(repeat' first|refine Jc (hc _) ?_|refine Jx ?_|refine Jb ?_ ?_|refine Jz ?_ ?_|refine Jo ?_|intro hb);{rw[hR,if_pos (by simpa using hb)]}
   ·rw[if_neg (by simpa using hb)]at hR;exact DropQ.go [(62,slV b 4 (Za kz)),(63,.int .i64 (kz.length:Int)),(64,.int .i64 ((i+1:Nat):Int))] ⟨rfl,rfl,Zg (Ze (n:=i+1) (by omega)),trivial⟩
     (by simp[Zl,under]) rfl (by simp[Ys,ZC,Zl,under]) (LoopI.go (m-1) (by omega) ⟨i+1,_,by omega,hR,rfl,rfl⟩)
   {exfalso;first|(simp at hb;omega)|(simp at hb hlt;omega)}
  {(have e:i=kz.length:=by omega);subst e;(repeat' first|refine Jz ?_ ?_|refine Jo ?_|intro hb);{exfalso;simp at hb};{rw[hR,List.drop_length];simp[thL]}}
theorem Zuo (ht:t.Ok) (hsz:t.size<4611686018427387000):∀H,CO 119 [.agg t.cells] H (.int .i64 (if t.valid≠0 then t.valid else t.th)) H:=by
 have h1:=c65 ht hsz;have h2:=ZvO ht;generalize t.valid=e at h1;generalize t.th=e2 at h2;obtain⟨k,nm,s,b,kz⟩:=t;refine Jw tOk fe119.ok rfl ?_;repeat' first|refine Jc (h1 _) ?_|refine Jc (h2 _) ?_|refine Jb ?_ ?_|refine Jo ?_|intro hb
 {rw[if_pos (by simpa using hb)]};{rw[if_neg (by simpa using hb)]}
