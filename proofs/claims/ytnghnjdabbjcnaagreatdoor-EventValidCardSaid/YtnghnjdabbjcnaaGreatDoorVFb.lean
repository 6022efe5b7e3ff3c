/-
  New slices of zeros, lengths, maps.
-/
import Derived.Test.YtnghnjdabbjcnaaGreatDoorVFa
import Derived.Lib.Strings
import Derived.LaidEql
import Derived.Laws.IdiomStrings
import Derived.Laws.MakeOwn
namespace Go.Vm
variable {e t:TypeId} {p q r x:PV} {a i k v:Value} {es f most n:Nat} {α β:Type} {cs:List PV} {d:TypeDesc} {hi mx:Option PV} {hi' mx':Option Value} {el el':List (List PV)} {b:Int} {op:BinOp} {ei:TI} {H':Heap} {parts:List (Nat×PV)} {vals:Array (Nat×Value)} {arr:Array Value}
section
variable {E:Env} {P:Program} {g:Gh} {H:Heap} {w:World}
theorem Zdc (hE:TOk E P) (hp:V g p a) (h:U7 E t p f=some q):∃v,(Instr.fieldAt t a f).run P w= .ok v w∧V g q v:=by unfold U7 at h;split at h;{rename_i ti ht;obtain⟨i,d,z,h1,h2,h3,rfl⟩:=hE.spec ht;simp only at h;split at h;{rename_i fs hfs;obtain⟨fa,rfl,rfl⟩:=Vg hfs;rw[Zm]at h;split at h;{rename_i o ft hf;split at h;{rename_i fi hfi;obtain⟨i',d',z',h1',h2',h3',rfl⟩:=hE.spec hfi;simp only at h;split at h;{cases h};{rename_i hsz;(obtain⟨fld,hfld,e⟩:∃fld,fa[f]? = some fld∧(fld.offset,fld.type)=(o,ft):=by simpa using hf);cases e;split at h;{cases h;obtain⟨b,hσ,rfl⟩:=hp.ptr_inv;refine⟨.pointer (some ⟨b,_,none⟩),?_,.ptr _ _ _ _ b hσ⟩;simp[Instr.fieldAt,run_underlying h2,hfld,Instr.sureAddr,fieldPlace,ZG h1',hsz,ZV,Nat.add_assoc]};{rename_i cs off;cases h;obtain⟨b,o',vals,e2,e3,rfl⟩:=hp.fptr_inv;refine⟨.pointer (some ⟨b,o'+(off+fld.offset),none⟩),?_,.pure _ _ (.fptr _ _ b o' vals e2 e3)⟩;simp[Instr.fieldAt,run_underlying h2,hfld,Instr.sureAddr,fieldPlace,ZG h1',hsz,ZV,Nat.add_assoc]};{cases h}}};{cases h}};{cases h}};{cases h}};{cases h}
theorem Uk (h:nat? p=some n):∃k,p= .int k (.ofNat n):=by unfold nat? at h;split at h;{cases h;exact⟨_,rfl⟩};{cases h}
theorem Zz {l:List α} {a:α} (h:l[n]? = some a):n<l.length:=by rcases Nat.lt_or_ge n l.length with h'|h';{exact h'};{simp[List.getElem?_eq_none h']at h}
theorem VV {l:List α} {a:α} (h:l[n]? = some a):l[n]'(Zz h)=a:=by simpa[List.getElem?_eq_getElem (Zz h)] using h
theorem ZdS (hE:TOk E P) (hp:V g p a) (hx:V g x i) (h:Zy E t p x=some q):∃v,(Instr.indexAt t a i).run P w= .ok v w∧V g q v:=by unfold Zy at h;split at h;{rename_i ti n ht hn;obtain⟨i0,d,z,h1,h2,h3,rfl⟩:=hE.spec ht;obtain⟨k,rfl⟩:=Uk hn;obtain rfl:=hx.int_inv;simp only at h;split at h;{rename_i e tl es el hd;have hd:=Yg hd;subst hd;split at h;{rename_i ei hei;obtain⟨i',d',z',h1',h2',h3',rfl⟩:=hE.spec hei;simp only at h;split at h;{rename_i hes;rw[Zm]at h;split at h;{rename_i cs hcs;cases h;obtain⟨b,o,cap,vals,a,rfl,hc,hw,hs,hv, -,ha⟩:=hp.sl_inv;have hlt:=Zz hcs;obtain rfl:=ha (.inl (by omega));(have hcl:cs.length=es:=by have:=hw n hlt;rwa [VV hcs]at this);refine⟨.pointer (some ⟨b,o+n*es,none⟩),?_,.pure _ _ (.fptr cs 0 b (o+n*es) (vals n) (fun j hj=>hs n j hlt (by omega)) fun j hj=>?_)⟩;{have h0:(0:Int)≤Int.ofNat n∧Int.ofNat n<(el.length:Int):=⟨Int.natCast_nonneg n,by simpa using hlt⟩;simp[Instr.indexAt,asIntOf,run_underlying h2,hlt,ZG h1',hes,ZV]};{have:=hv n hlt j (by rw[VV hcs];exact hj);simpa[VV hcs] using this}};{cases h}};{cases h}};{cases h}};{rename_i e id es ix len hd;have hd:=Yg hd;subst hd;split at h;{rename_i ei hei;obtain⟨i',d',z',h1',h2',h3',rfl⟩:=hE.spec hei;simp only at h;split at h;{rename_i hes;split at h;{rename_i hlt;cases h;obtain⟨b,cap,a,hσ,hc,ha,hsp,rfl⟩:=hp.own_inv;have:=ha (by omega);subst this;refine⟨.pointer (some ⟨b,(ix+n)*es+0,none⟩),?_,.ptr _ _ _ _ b hσ⟩;simp[Instr.indexAt,asIntOf,run_underlying h2,hlt,ZG h1',hes,ZV,Nat.add_mul]};{cases h}};{cases h}};{cases h}};{rename_i len e id es ix off hd;have hd:=QN hd;subst hd;split at h;{rename_i ei hei;obtain⟨i',d',z',h1',h2',h3',rfl⟩:=hE.spec hei;simp only at h;split at h;{rename_i hlt;cases h;obtain⟨b,hσ,rfl⟩:=hp.ptr_inv;refine⟨.pointer (some ⟨b,ix*es+(off+n*i'.size),none⟩),?_,.ptr _ _ _ _ b hσ⟩;simp[Instr.indexAt,asIntOf,run_underlying h2,Instr.sureAddr,hlt,ZG h1',ZV,Nat.add_assoc]};{cases h}};{cases h}};{rename_i len e cs off hd;have hd:=QN hd;subst hd;split at h;{rename_i ei hei;obtain⟨i',d',z',h1',h2',h3',rfl⟩:=hE.spec hei;simp only at h;split at h;{rename_i hlt;cases h;obtain⟨b,o',vals,e2,e3,rfl⟩:=hp.fptr_inv;refine⟨.pointer (some ⟨b,o'+(off+n*i'.size),none⟩),?_,.pure _ _ (.fptr _ _ b o' vals e2 e3)⟩;simp[Instr.indexAt,asIntOf,run_underlying h2,Instr.sureAddr,hlt,ZG h1',ZV,Nat.add_assoc]};{cases h}};{cases h}};{cases h}};{cases h}
theorem U3 (hE:TOk E P) {vs:Array Value} (hl:vs.size=cs.length) (hv:∀i (hi:i<cs.length),V g (cs[i]) (vs[i]'(by omega))) {off:Nat} (h:ZgB E t cs off=some q):∃v,(part t vs off).run P w= .ok v w∧V g q v:=by unfold ZgB at h;split at h;{rename_i ti ht;obtain⟨i,d,z,h1,h2,h3,rfl⟩:=hE.spec ht;simp only at h;split at h;{rename_i hA;split at h;{rename_i hle;cases h;refine⟨.agg (vs.extract off (off+i.size)),?_,.agg _ _ (by simp;omega) fun j hj=>?_⟩;{simp[part,VD h2,hA,ZG h1]};{(have hj':j<i.size:=by simp at hj;omega);have:=hv (off+j) (by omega);simpa using this}};{cases h}};{rename_i hA;rw[Zm]at h;have hlt:=Zz h;have hv':=hv off hlt;rw[VV h]at hv';(have hsz:off<vs.size:=by omega);exact⟨_,by simp[part,VD h2,hA,hsz],hv'⟩}};{cases h}
theorem Zkd (hE:TOk E P) (hp:V g p a) (h:ZiY E t p f=some q):∃v,(Instr.field t a f).run P w= .ok v w∧V g q v:=by unfold ZiY at h;split at h;{rename_i ti cs ht;obtain⟨i,d,z,h1,h2,h3,rfl⟩:=hE.spec ht;simp only at h;split at h;{rename_i fs hfs;obtain⟨fa,rfl,rfl⟩:=Vg hfs;rw[Zm]at h;split at h;{rename_i o ft hf;(obtain⟨fld,hfld,e⟩:∃fld,fa[f]? = some fld∧(fld.offset,fld.type)=(o,ft):=by simpa using hf);cases e;obtain⟨vs,hl,rfl,hv⟩:=hp.agg_inv;obtain⟨v,hr,hq⟩:=U3 (w:=w) hE hl hv h;exact⟨v,by simp[Instr.field,run_underlying h2,hfld,asAgg,hr],hq⟩};{cases h}};{cases h}};{cases h}
theorem Zj9 (hE:TOk E P) (hp:V g p a) (hx:V g x i) (h:UH E t p x=some q):∃v,(Instr.index t a i).run P w= .ok v w∧V g q v:=by unfold UH at h;split at h;{rename_i ti n ht hn;obtain⟨i0,d,z,h1,h2,h3,rfl⟩:=hE.spec ht;obtain⟨k,rfl⟩:=Uk hn;obtain rfl:=hx.int_inv;simp only at h;split at h;{rename_i s hd;have hd:=YE hd;subst hd;rw[Zm]at h;split at h;{rename_i c hc;cases h;obtain⟨b,rfl,hb⟩:=hp.str_inv;subst hb;have hlt:=Zz hc;(have hlt':n<b.size:=by simpa using hlt);(have hbc:b[n]=c:=by have:=VV hc;show b.data[n]=c;simpa using this);refine⟨.int .u8 (c.toNat),?_,.pure _ _ (.int _ _)⟩;simp[Instr.index,asIntOf,run_underlying h2,ByteArray.getElem?_lt' b n hlt',hbc]};{cases h}};{rename_i len e cs hd;have hd:=QN hd;subst hd;split at h;{rename_i ei hei;obtain⟨i',d',z',h1',h2',h3',rfl⟩:=hE.spec hei;simp only at h;split at h;{rename_i hlt;obtain⟨vs,hl,rfl,hv⟩:=hp.agg_inv;obtain⟨v,hr,hq⟩:=U3 (w:=w) hE hl hv h;exact⟨v,by simp[Instr.index,asIntOf,run_underlying h2,hlt,ZG h1',hr],hq⟩};{cases h}};{cases h}};{cases h}};{cases h}
end
section
variable {E:Env} {P:Program} {g:Gh} {H:Heap} {w:World}
def ZmE (g:Gh):Option PV→Option Value→Prop
 |some p,some a=>V g p a
 |none,none=>True
 |_,_=>False
def Zl8 (d most:Nat) (code:BoundsCode):Option Value→Sem Nat
 |some v=>Instr.sliceBound v most code
 |none=>pure d
theorem Xh (s:Bool) (len cap:Nat) (low high:Option Value):(Instr.sliceBounds s len cap low high none).run P w=((Zl8 len cap (if s then .sliceAcap else .sliceAlen) high).run P w).andThen fun h w=>((Zl8 0 h .sliceB low).run P w).andThen fun l w=> .ok (l,h,cap) w:=by cases high<;>cases low<;>simp[Instr.sliceBounds,Zl8]
theorem WB (s:Bool) (len cap:Nat) (low:Option Value) (high mx:Value):(Instr.sliceBounds s len cap low (some high) (some mx)).run P w=((Instr.sliceBound mx cap (if s then .slice3Acap else .slice3Alen)).run P w).andThen fun m w=>((Instr.sliceBound high m .slice3B).run P w).andThen fun h w=>((Zl8 0 h .slice3C low).run P w).andThen fun l w=> .ok (l,h,m) w:=by cases low<;>simp[Instr.sliceBounds,Zl8]
theorem WK {d:Nat} {p:Option PV} (h:XP d most p=some n) (hd:d≤most):n≤most:=by
 cases p with
 |none=>simp only[XP,Option.some.injEq]at h;omega
 |some p=>simp only[XP]at h;split at h;{split at h;{cases h;assumption};{cases h}};{cases h}
theorem YO {d most':Nat} {p:Option PV} {a:Option Value} (hp:ZmE g p a) (h:XP d most p=some n) (hm:most≤most') (code:BoundsCode):(Zl8 d most' code a).run P w= .ok n w:=by
 cases p with
 |none=>
  cases a with
  | none=>simp only[XP,Option.some.injEq]at h;subst h;rfl
  | some a=>exact hp.elim
 |some p=>
  cases a with
  | none=>exact hp.elim
  | some a=>simp only[XP]at h;split at h;{rename_i m hm;split at h;{rename_i hle;cases h;obtain⟨k,rfl⟩:=Uk hm;obtain rfl:=V.int_inv hp;(have:n≤most':=by omega);simp[Zl8,Instr.sliceBound,asIntOf,this]};{cases h}};{cases h}
theorem Zju {len:Nat} {m:Option Nat} (h2:ZmE g hi hi') (h3:ZmE g mx mx') (h:ZbK len hi mx=some m):(m=none∧mx'=none)∨∃k hv mv,m=some k∧hi'=some hv∧mx'=some mv∧k≤len∧∀cap,len≤cap→∀code,(Instr.sliceBound mv cap code).run P w= .ok k w:=by
 cases mx with
 |none=>
  cases mx' with
  | none=>simp only[ZbK,Option.some.injEq]at h;exact .inl ⟨h.symm,rfl⟩
  | some _=>exact h3.elim
 |some p=>
  cases mx' with
  | none=>exact h3.elim
  | some mv=>
   cases hi with
   | none=>simp[ZbK]at h
   | some hp=>
    cases hi' with
    | none=>exact h2.elim
    | some hv=>
     simp only[ZbK]at h;split at h
     ·rename_i k hk;split at h
      ·rename_i hle;cases h;obtain⟨kk,rfl⟩:=Uk hk;obtain rfl:=V.int_inv h3;exact .inr ⟨k,hv,_,rfl,rfl,rfl,hle,fun cap hc code=>by
        have:k≤cap:=by omega
        simp[Instr.sliceBound,asIntOf,this]⟩
      {cases h}
     {cases h}
theorem Zmd {b o l h nc:Nat} (vals:Nat→Nat→Value) (hw:∀i (hi:i<el.length),(el[i]).length=es) (hs:∀i j,i<el.length→j<es→g.S b (o+i*es+j)=some (vals i j)) (hv:∀i (hi:i<el.length) j (hj:j<(el[i]).length),V0 g.S ((el[i])[j]) (vals i j)) (hl:l≤h) (hh:h≤el.length) (hn:h≤nc) (tl:Tail) (ht:ZcK g tl es (el.take h) b o nc) (a:Addr) (ha:(0<el.length∨∃t,tl= .tok t)→a=⟨b,o,none⟩):V g (.sl tl es ((el.take h).drop l)) (.slice (if nc=l then some a else(some a:Option Addr).map (·.add (l*es))) (h-l) (nc-l)):=by
 have hlen:((el.take h).drop l).length=h-l:=by simp;omega
 by_cases hpos:0<el.length∨∃t,tl= .tok t;case neg=>
  have h0:el.length=0:=by
   rcases Nat.eq_zero_or_pos el.length with h|h
   · exact h
   · exact(hpos (.inl h)).elim
  have e0:el= []:=by simpa using h0
  subst e0
  have hh0:h=0:=by simpa using hh
  subst hh0
  have hl0:l=0:=by omega
  subst hl0
  have hx:∀x:Addr,V g (.sl tl es []) (.slice (some x) 0 nc):=fun x=> .pure _ _ (.sl tl es [] x 0 0 nc (fun _ _=>undef) (fun h=>absurd h (by simp)) (by
   cases tl with
   | none=>exact .inl rfl
   | full=>exact .inr ⟨rfl,ht⟩
   | tok t=>exact(hpos (.inr ⟨t,rfl⟩)).elim) (by simp) (fun i hi=>absurd hi (by simp)) (fun i j hi=>absurd hi (by simp)) (fun i hi=>absurd hi (by simp)))
  have:=hx (if nc=0 then a else a.add (0*es))
  simp only[List.take_nil,List.drop_nil,Nat.sub_zero]
  split
  · rename_i e;rw[if_pos e]at this;exact this
  · rename_i e;rw[if_neg e]at this;exact this
 obtain rfl:=ha hpos;by_cases e:nc=l
 ·have hz:h-l=0:=by omega
  rw[if_pos e];refine V.sl_mk vals hlen.symm (by omega) (fun i hi=>by omega) (fun i j hi=>by omega) (fun i hi=>by omega) ?_;cases tl with
  | none=>trivial
  | full=>show nc-l=_;omega
  | tok t=>exact⟨ht.choose,by rw[List.eq_nil_of_length_eq_zero (show((el.take h).drop l).length=0 by omega)];rfl,.inl ⟨by omega,by omega⟩⟩
 ·rw[if_neg e,Option.map_some,ZV];refine V.sl_mk (fun i j=>vals (l+i) j) hlen.symm (by omega) (fun i hi=>?_) (fun i j hi hj=>?_) (fun i hi j hj=>?_) ?_;{simpa using hw (l+i) (by omega)};{have:=hs (l+i) j (by omega) hj;rwa [Nat.add_mul, ← Nat.add_assoc]at this};{(have e1:((el.take h).drop l)[i]=el[l+i]'(by omega):=by simp);have:=hv (l+i) (by omega) j (by rw[← e1];exact hj);simpa[e1] using this}
  ·cases tl with
   | none=>trivial
   | full=>have ht:nc=(el.take h).length:=ht;rw[List.length_take]at ht;show nc-l=_;omega
   | tok t=>obtain⟨T,hT,ht⟩:=ht;(have hth:(el.take h).length=h:=by rw[List.length_take];omega);rw[hth]at ht;refine⟨T,Ziv hT l,?_⟩;rcases ht with ht|ht;{exact .inl ⟨by omega,by omega⟩};{refine .inr ?_;rw[ht,hlen];(have a1:l*es+(h-l)*es=h*es:=by rw[← Nat.add_mul];congr 1;omega);(have a2:l*es+(nc-l)*es=nc*es:=by rw[← Nat.add_mul];congr 1;omega);simp only[Option.some.injEq,Prod.mk.injEq,true_and,and_true];omega}
theorem Zlt (hE:TOk E P) (hp:V g p a) {lo:Option PV} {lo':Option Value} (h1:ZmE g lo lo') (h2:ZmE g hi hi') (h3:ZmE g mx mx') (h:Yf E t p lo hi mx=some q):∃v,(Instr.sliceAt t a lo' hi' mx').run P w= .ok v w∧V g q v:=by
 unfold Yf at h;split at h
 ·rename_i ti ht;obtain⟨i,d,z,e1,e2,e3,rfl⟩:=hE.spec ht;simp only at h;split at h;{rename_i s hd;have hd:=YE hd;subst hd;split at h;{cases h};{(have hm:mx'=none:=by cases mx' with|none=>rfl|some _=>exact h3.elim);subst hm;split at h;{rename_i hh hhi;split at h;{rename_i l hlo;cases h;obtain⟨b,rfl,rfl⟩:=hp.str_inv;have r1:=YO (P:=P) (w:=w) h2 hhi (Nat.le_refl _) .sliceAlen;have r2:=YO (P:=P) (w:=w) h1 hlo (Nat.le_refl _) .sliceB;refine⟨.string (b.extract l hh),?_,.pure _ _ (.str _ _ (by rw[Lib.extract_data,List.drop_take]))⟩;have e:b.data.toList.length=b.size:=rfl;rw[e]at r1;simp[Instr.sliceAt,run_underlying e2,Instr.slice,Xh,r1,r2]};{cases h}};{cases h}}}
  ·rename_i e tl es el hd;have hd:=Yg hd;subst hd;split at h
   ·rename_i ei hei;obtain⟨i',d',z',h1',h2',h3',rfl⟩:=hE.spec hei;simp only at h;split at h
    ·rename_i hes;split at h
     ·rename_i m hmm;split at h
      ·rename_i hh hhi;split at h
       ·rename_i l hlo;cases h;obtain⟨b,o,cap,vals,a,rfl,hc,hw,hs,hv,htl,ha⟩:=hp.sl_inv;rcases Zju (P:=P) (w:=w) h2 h3 hmm with⟨rfl,rfl⟩|⟨k,hv',mv,rfl,rfl,rfl,hk,hrun⟩;{have hle:=WK hhi (Nat.le_refl _);have hle:hh≤el.length:=hle;have hl:=WK hlo (Nat.zero_le _);have r1:=YO (P:=P) (w:=w) h2 hhi (show el.length≤cap from hc) .sliceAcap;have r2:=YO (P:=P) (w:=w) h1 hlo (Nat.le_refl _) .sliceB;refine⟨_,?_,Zmd (nc:=cap) vals hw hs hv hl hle (by omega) _ ?_ a ?_⟩;{simp only[Instr.sliceAt,run_underlying e2,Sem.run_bind,Result.andThen_ok,Instr.slice,Xh,r1,r2,ZG h1',if_true,Sem.run_pure,hes]};{show ZcK g (if hh=el.length then tl else .none) es (el.take hh) b o cap;by_cases e:hh=el.length;{rw[if_pos e,e,List.take_length];exact htl};{rw[if_neg e];trivial}};{intro hx;refine ha (hx.imp id ?_);rintro⟨t,ht⟩;have ht:(if hh=el.length then tl else .none)=Tail.tok t:=ht;split at ht;{exact⟨t,ht⟩};{cases ht}}}
        ·have hkh : hh ≤ k ∧ ∀code, (Instr.sliceBound hv' k code).run P w = .ok hh w := by
           cases hi with
           | none=>exact h2.elim
           | some hp' =>
             simp only[XP,Option.getD_some]at hhi
             split at hhi
             · rename_i n hn
               split at hhi
               · rename_i hle
                 cases hhi
                 obtain⟨kk,rfl⟩:=Uk hn
                 obtain rfl:=V.int_inv h2
                 exact⟨hle,fun code=>by simp[Instr.sliceBound,asIntOf,hle]⟩
               · cases hhi
             · cases hhi
         have hl:=WK hlo (Nat.zero_le _);have r2:=YO (P:=P) (w:=w) h1 hlo (Nat.le_refl _) .slice3C;have r0:=hrun cap hc .slice3Acap;have r1:=hkh.2 .slice3B;refine⟨_,?_,Zmd (nc:=k) vals hw hs hv hl (by omega) hkh.1 _ ?_ a ?_⟩;{simp only[Instr.sliceAt,run_underlying e2,Sem.run_bind,Result.andThen_ok,Instr.slice,WB,r0,r1,r2,ZG h1',if_true,Sem.run_pure,hes]};{show ZcK g (if k=hh then .full else .none) es (el.take hh) b o k;by_cases e:k=hh;{rw[if_pos e];show k=(el.take hh).length;rw[List.length_take];omega};{rw[if_neg e];trivial}};{intro hx;refine ha (hx.imp id ?_);rintro⟨t,ht⟩;have ht:(if k=hh then Tail.full else .none)=Tail.tok t:=ht;split at ht<;>cases ht}
       {cases h}
      {cases h}
     {cases h}
    {cases h}
   {cases h}
  {rename_i e hd;have hd:=Yg hd;subst hd;obtain rfl:=hp.nils_inv;split at h;{rename_i ei hei;obtain⟨i',d',z',h1',h2',h3',rfl⟩:=hE.spec hei;split at h;{rename_i m hmm;split at h;{rename_i hh hhi;split at h;{rename_i l hlo;cases h;(have hh0:hh=0:=by have:=WK hhi (Nat.le_refl _);omega);subst hh0;(have hl0:l=0:=by have:=WK hlo (Nat.le_refl _);omega);subst hl0;refine⟨.slice none 0 0,?_,.pure _ _ .nils⟩;rcases Zju (P:=P) (w:=w) h2 h3 hmm with⟨rfl,rfl⟩|⟨k,hv',mv,rfl,rfl,rfl,hk,hrun⟩;{have r1:=YO (P:=P) (w:=w) h2 hhi (Nat.le_refl _) .sliceAcap;have r2:=YO (P:=P) (w:=w) h1 hlo (Nat.le_refl _) .sliceB;simp[Instr.sliceAt,run_underlying e2,Instr.slice,Xh,r1,r2,ZG h1']};{(have hk0:k=0:=by omega);subst hk0;have r1:=YO (P:=P) (w:=w) h2 hhi (Nat.le_refl _) .slice3B;have r2:=YO (P:=P) (w:=w) h1 hlo (Nat.le_refl _) .slice3C;have r0:=hrun 0 (Nat.le_refl _) .slice3Acap;simp only[Zl8]at r1;simp[Instr.sliceAt,run_underlying e2,Instr.slice,WB,r0,r1,r2,ZG h1']}};{cases h}};{cases h}};{cases h}};{cases h}};{rename_i e id es ix len hd;have hd:=Yg hd;subst hd;split at h;{rename_i ei hei;obtain⟨i',d',z',h1',h2',h3',rfl⟩:=hE.spec hei;(have hm:mx'=none:=by cases mx' with|none=>rfl|some _=>exact h3.elim);subst hm;simp only at h;split at h;{rename_i hes;split at h;{rename_i hh hhi;split at h;{rename_i l hlo;cases h;obtain⟨b,cap,a,hσ,hc,ha,hsp,hk,rfl⟩:=hp.own_inv2;have hle:=WK hhi (Nat.le_refl _);have hl:=WK hlo (Nat.zero_le _);have r1:=YO (P:=P) (w:=w) h2 hhi hc .sliceAcap;have r2:=YO (P:=P) (w:=w) h1 hlo (Nat.le_refl _) .sliceB;refine⟨.slice (some (if cap=l then a else a.add (l*es))) (hh-l) (cap-l),?_,.own _ _ _ _ b _ _ hσ (by omega) (fun hpos=>?_) ?_ ⟨by rw[show ix+l+(cap-l)=ix+cap by omega];exact hk.1,by have:=hk.2;omega⟩⟩;{simp only[Instr.sliceAt,run_underlying e2,Sem.run_bind,Result.andThen_ok,Instr.slice,Xh,r1,r2,ZG h1',if_true,Sem.run_pure,hes];split<;>simp};{by_cases hcl:cap=l;{rw[if_pos hcl];(obtain rfl:ix=0:=by omega);(obtain rfl:l=0:=by omega);exact ha (.inr rfl)};{have:=ha (by omega);subst this;rw[if_neg hcl,ZV,Nat.add_mul]}};{split;{exact hsp};{unfold Addr.add;split<;>simp[hsp]}}};{cases h}};{cases h}};{cases h}};{cases h}};{cases h}
 {cases h}
theorem ZkO {k:IntKind} {a:Int} (h:ZdB op k a b=some q) (h1:op≠ .shl) (h2:op≠ .shr) (t:TypeId):∃v,(binOp op t (.int k a) (.int k b)).run P w= .ok v w∧V g q v:=by
 cases op with
 |shl=>exact absurd rfl h1
 |shr=>exact absurd rfl h2
 |quo=>simp only[ZdB]at h;by_cases hb:b=0;{simp[hb]at h};{simp only[hb,if_false]at h;cases h;exact⟨_,by simp only[binOp,Op.intDiv,ne_eq,not_true_eq_false,hb,if_false];rfl,.pure _ _ (by constructor)⟩}
 |rem=>simp only[ZdB]at h;by_cases hb:b=0;{simp[hb]at h};{simp only[hb,if_false]at h;cases h;exact⟨_,by simp only[binOp,Op.intDiv,ne_eq,not_true_eq_false,hb,if_false];rfl,.pure _ _ (by constructor)⟩}
 |_=>simp only[ZdB]at h;cases h;exact⟨_,by simp only[binOp,Op.intArith,Op.intBits,Op.intCmp,ne_eq,not_true_eq_false,if_false];rfl,.pure _ _ (by constructor)⟩
theorem Zfm {k k':IntKind} {a:Int} (h:Zfk op k a b=some q) (t:TypeId):∃v,(binOp op t (.int k a) (.int k' b)).run P w= .ok v w∧V g q v:=by
 unfold Zfk at h;by_cases hb:b<0;{simp[hb]at h}
 ·simp only[hb,if_false]at h;cases op with
  | shl=>cases h;exact⟨_,by simp only[binOp,Op.shift,hb,if_false];rfl,.pure _ _ (by constructor)⟩
  | shr=>cases h;exact⟨_,by simp only[binOp,Op.shift,hb,if_false];rfl,.pure _ _ (by constructor)⟩
  | _=>cases h
theorem Zqh {a b:ByteArray} (h:Znr op a.data.toList b.data.toList=some q) (t:TypeId):∃v,(binOp op t (.string a) (.string b)).run P w= .ok v w∧V g q v:=by
 cases op with
 |add=>simp only[Znr]at h;by_cases hle:a.data.toList.length+b.data.toList.length≤281474976710656;{simp only[hle,if_true]at h;cases h;(have hn:¬ ((a.size+b.size:Nat):Int) > IntKind.i64.max:=by simp only[Array.length_toList]at hle;have e1:a.data.size=a.size:=rfl;have e2:b.data.size=b.size:=rfl;(have e3:IntKind.i64.max=9223372036854775807:=by decide);omega);exact⟨.string (a++b),by simp only[binOp,Op.stringOp];rw[if_neg hn];rfl,.pure _ _ (.str _ _ (by simp))⟩};{simp only[hle,if_false]at h;cases h}
 |eql=>cases h;exact⟨_,by simp only[binOp,Op.stringOp,ByteArray.toList_eq];rfl,.pure _ _ (by constructor)⟩
 |neq=>cases h;exact⟨_,by simp only[binOp,Op.stringOp,ByteArray.toList_eq];rfl,.pure _ _ (by constructor)⟩
 |lss=>cases h;exact⟨_,by simp only[binOp,Op.stringOp,ByteArray.toList_eq];rfl,.pure _ _ (by constructor)⟩
 |leq=>cases h;exact⟨_,by simp only[binOp,Op.stringOp,ByteArray.toList_eq];rfl,.pure _ _ (by constructor)⟩
 |gtr=>cases h;exact⟨_,by simp only[binOp,Op.stringOp,ByteArray.toList_eq];rfl,.pure _ _ (by constructor)⟩
 |geq=>cases h;exact⟨_,by simp only[binOp,Op.stringOp,ByteArray.toList_eq];rfl,.pure _ _ (by constructor)⟩
 |_=>cases h
theorem Zru {op:UnOp} (hp:V g p a) (h:aUn op p=some q):∃v,(Op.unary op a).run P w= .ok v w∧V g q v:=by unfold aUn at h;split at h;{cases h;obtain rfl:=hp.bool_inv;exact⟨_,rfl,.pure _ _ (.bool _)⟩};{cases h;obtain rfl:=hp.int_inv;exact⟨_,rfl,.pure _ _ (.int _ _)⟩};{cases h;obtain rfl:=hp.int_inv;exact⟨_,rfl,.pure _ _ (.int _ _)⟩};{cases h}
theorem Zds:∀{el:List (List PV)} {l:List UInt8},WS el=some l→el.length=l.length∧∀i (hi:i<l.length),el[i]? = some [.int .u8 (Int.ofNat l[i].toNat)]
 | [],l,h=>by simp[WS]at h;subst h;exact⟨rfl,fun i hi=>absurd hi (by simp)⟩
 |c::r,l,h=>by
  simp only[WS]at h;split at h
  ·rename_i n;split at h
   ·rename_i hn;simp only[Bool.and_eq_true,decide_eq_true_eq]at hn;split at h
    ·rename_i l' hl;cases h;obtain⟨h1,h2⟩:=Zds hl;refine⟨by simp[h1],fun i hi=>?_⟩;cases i with
     | zero=>(have:n.toNat<256:=by omega);simp[Nat.mod_eq_of_lt this];omega
     | succ i=>simpa using h2 i (by simpa using hi)
    {cases h}
   {cases h}
  {cases h}
theorem ZnO (hE:TOk E P) (hst:∀b o v,g.S b o=some v→w.cell? ⟨b,o,none⟩=some v) {s d:TypeId} (hp:V g p a) (h:Zdb E s d p=some q):∃v,(convert s d a).run P w= .ok v w∧V g q v:=by
 unfold Zdb at h;split at h
 ·rename_i si di hs hd;obtain⟨i,ds,z,e1,e2,e3,rfl⟩:=hE.spec hs;obtain⟨i',dd,z',e1',e2',e3',rfl⟩:=hE.spec hd;simp only at h;split at h;{rename_i k' k k'' n h1 h2;have h1:=QY h1;subst h1;have h2:=QY h2;subst h2;cases h;obtain rfl:=hp.int_inv;exact⟨_,by simp[convert,run_underlying e2,run_underlying e2',Conv.intToInt],.pure _ _ (.int _ _)⟩};{rename_i b h1 h2;have h1:=YE h1;subst h1;have h2:=YE h2;subst h2;cases h;obtain⟨b,rfl,rfl⟩:=hp.str_inv;exact⟨_,by simp[convert,run_underlying e2,run_underlying e2'],.pure _ _ (.str _ _ rfl)⟩}
  ·rename_i e tl es el h1 h2;have h1:=Yg h1;subst h1;have h2:=YE h2;subst h2;split at h
   ·rename_i ei hes hT;obtain rfl:=Nat.eq_of_beq_eq_true hes;obtain⟨i3,d3,z3,u1,u2,u3,rfl⟩:=hE.spec hT;simp only at h;split at h
    ·rename_i hk;have hk:=QY hk;subst hk;cases hb:WS el with
     | none=>rw[hb]at h;cases h
     | some l=>
      rw[hb]at h;cases h;obtain⟨b1,b2⟩:=Zds hb;obtain⟨b,o,cap,vals,a0,rfl,hc,hw,hs,hv, -,ha⟩:=hp.sl_inv;refine⟨.string ⟨l.toArray⟩,?_,.pure _ _ (.str _ _ (by simp))⟩;rw[b1];refine run_convert_bytes_back w s d e a0 cap l e2 u2 e2' fun j hj=>?_;(have hj':j<el.length:=by omega);have ha:=ha (.inl (by omega));subst ha;have x1:=hs j 0 hj' (by omega);have x2:=b2 j hj;rw[List.getElem?_eq_getElem hj',Option.some.injEq]at x2;have x3:=hv j hj' 0 (by rw[x2];simp);simp only[x2,List.getElem_cons_zero]at x3;cases hvv:vals j 0 with
      | int k' n'=>rw[hvv]at x3 x1;cases x3;have h9:=hst _ _ _ x1;(have e9:(⟨b,o,none⟩:Addr).add j=⟨b,o+j*1+0,none⟩:=by simp only[Addr.add,Nat.mul_one,Nat.add_zero];split;{rename_i e;simp[e]};{rfl});rw[e9];exact h9
      | _=>rw[hvv]at x3;cases x3
    {cases h}
   {cases h}
  ·rename_i e h1 h2;have h1:=Yg h1;subst h1;have h2:=YE h2;subst h2;split at h
   ·rename_i ei hT;obtain⟨i3,d3,z3,u1,u2,u3,rfl⟩:=hE.spec hT;simp only at h;split at h
    ·rename_i hk;have hk:=QY hk;subst hk;cases h;have ha:a= .slice none 0 0:=by
      cases hp with
      | pure _ _ h=>cases h;rfl
     subst ha;exact⟨.string .empty,by simp[convert,run_underlying e2,run_underlying e2',run_underlying u2,Conv.bytesToString],.pure _ _ (.str _ _ rfl)⟩
    {cases h}
   {cases h}
  {cases h}
 {cases h}
end
section
variable {E:Env} {P:Program} {g:Gh} {H:Heap} {w:World}
theorem VL.append {a b:List PV} {x y:List Value} (h:VL g a x) (h':VL g b y):VL g (a++b) (x++y):=by
 refine⟨by simp[h.1,h'.1],fun i hi hj=>?_⟩;by_cases e:i<a.length
 ·have e':i<x.length:=by rw[h.1];exact e
  rw[List.getElem_append_left e,List.getElem_append_left e'];exact h.2 i e e'
 ·have e':x.length≤i:=by rw[h.1];omega
  rw[List.getElem_append_right (by omega),List.getElem_append_right e'];have:=h'.2 (i-a.length) (by simp at hi;omega) (by rw[h'.1];simp at hi;omega);simpa[h.1] using this
theorem VL.take {a:List PV} {x:List Value} (h:VL g a x) (n:Nat):VL g (a.take n) (x.take n):=by refine⟨by simp[h.1],fun i hi hj=>?_⟩;simp at hi hj;simpa using h.2 i (by omega) (by omega)
theorem VL.drop {a:List PV} {x:List Value} (h:VL g a x) (n:Nat):VL g (a.drop n) (x.drop n):=by refine⟨by simp[h.1],fun i hi hj=>?_⟩;simp at hi hj;simpa using h.2 (n+i) (by omega) (by omega)
theorem VL.zero (z:Value) (hz:0<(ofConst z).cells.length):VL g (ofConst z).cells z.cells.toList:=(V.pure _ _ (V0.ofConst g.S z)).cells hz
theorem ZiC (hi:Inv g H w) (cs:List PV) (vs:List Value) (hvl:VL g cs vs) (T:TypeId):∃g',V g' (.ptr H.bx.length cs.length 0 0) (.pointer (some ⟨w.heap.size,0,none⟩))∧Inv g' (H.push (.cells cs.length [cs])) (w.alloc (.cells vs.toArray T))∧Keep g H w g' (H.push (.cells cs.length [cs])) (w.alloc (.cells vs.toArray T)):=by
 obtain⟨i1,k1⟩:=Vv hi (.cells vs.toArray T) (.cells cs.length [cs]) rfl
  (fun es el h => by
    cases h
    refine⟨_,T,rfl,fun i hi=>?_,by simp[hvl.1],fun i hi j hj=>?_⟩
    · obtain rfl : i = 0 := by simp at hi; omega
      rfl
    · obtain rfl : i = 0 := by simp at hi; omega
      have hj':j<cs.length:=by simpa using hj
      exact⟨vs[j]'(by rw[hvl.1];exact hj'),by simp[hvl.1,hj'],by simpa using hvl.2 j hj' (by rw[hvl.1];exact hj')⟩)
  (fun es h=>by cases h)
 refine⟨_,?_,i1,k1⟩;have:=V.ptr (g:=g.link H.bx.length w.heap.size) H.bx.length cs.length 0 0 w.heap.size (by simp[Gh.link]);simpa using this
theorem ZpY (hi:Inv g H w) (cs:List PV) (vs:List Value) (hvl:VL g cs vs) (T:TypeId):∃g',V g' (.ptr H.bx.length cs.length 0 0) (.pointer (some ⟨w.heap.size,0,none⟩))∧Inv g' (H.push (.sp T cs)) (w.alloc (.cells vs.toArray T))∧Keep g H w g' (H.push (.sp T cs)) (w.alloc (.cells vs.toArray T)):=by
 obtain⟨i1, k1⟩ := Vv hi (.cells vs.toArray T) (.sp T cs) rfl (fun es el h => by cases h) (fun es h => by cases h) (hsp := fun T0 cs0 h => by
   cases h
   exact⟨_,rfl,by simp[hvl.1],fun j hj=>⟨vs[j]'(by rw[hvl.1];exact hj),by simp[hvl.1,hj],hvl.2 j hj (by rw[hvl.1];exact hj)⟩⟩)
 refine⟨_,?_,i1,k1⟩;have:=V.ptr (g:=g.link H.bx.length w.heap.size) H.bx.length cs.length 0 0 w.heap.size (by simp[Gh.link]);simpa using this
theorem Zgw (hE:TOk E P) (hi:Inv g H w) (he:E.T e=some ei) (hz:ei.zero.cells.length=ei.size) (hp:0<ei.size):∃v w' g',(Instr.alloc e true (.tuple #[])).run P w= .ok v w'∧V g' (.ptr H.bx.length ei.size 0 0) v∧Inv g' (H.push (.sp e ei.zero.cells)) w'∧Keep g H w g' (H.push (.sp e ei.zero.cells)) w':=by obtain⟨i,d,z,h1,h2,h3,rfl⟩:=hE.spec he;simp only at hz hp;obtain⟨g',a,b,c⟩:=ZpY hi _ _ (VL.zero z (by omega)) e;rw[hz]at a;refine⟨_,_,g',?_,a,b,c⟩;simp[Instr.alloc,XD h1 h3,newVar,newRow,newObj];rfl
theorem Zko (hE:TOk E P) (hi:Inv g H w) (he:E.T e=some ei) (hz:ei.zero.cells.length=ei.size) (hp:0<ei.size):∃v w' g',(Instr.alloc e true (.tuple #[])).run P w= .ok v w'∧V g' (.ptr H.bx.length ei.size 0 0) v∧Inv g' (H.push (.cells ei.size [ei.zero.cells])) w'∧Keep g H w g' (H.push (.cells ei.size [ei.zero.cells])) w':=by obtain⟨i,d,z,h1,h2,h3,rfl⟩:=hE.spec he;simp only at hz hp;obtain⟨g',a,b,c⟩:=ZiC hi _ _ (VL.zero z (by omega)) e;rw[hz]at a b c;refine⟨_,_,g',?_,a,b,c⟩;simp[Instr.alloc,XD h1 h3,newVar,newRow,newObj];rfl
theorem Zpc (hi:Inv g H w) (hp:V g p a) (hpos:0<p.cells.length) (e:TypeId):∃v w' g',(Instr.box e a).run P w= .ok v w'∧V g' (.ptr H.bx.length p.cells.length 0 0) v∧Inv g' (H.push (.cells p.cells.length [p.cells])) w'∧Keep g H w g' (H.push (.cells p.cells.length [p.cells])) w':=by obtain⟨g',x,y,z⟩:=ZiC hi _ _ (hp.cells hpos) e;refine⟨_,_,g',?_,x,y,z⟩;simp[Instr.box,newVar,newRow,newObj];rfl
theorem XR (h:V g p v) (hc:ZL p=true):v.oneCell'=true:=by
 cases p with
 |agg _=>simp[ZL]at hc
 |tup _=>simp[ZL]at hc
 |undef=>simp[ZL]at hc
 |bool _=>rw[h.bool_inv];rfl
 |int _ _=>rw[h.int_inv];rfl
 |str _=>obtain⟨_,rfl,_⟩:=h.str_inv;rfl
 |nilp=>rw[h.nilp_inv];rfl
 |ptr _ _ _ _=>obtain⟨_,_,rfl⟩:=h.ptr_inv;rfl
 |fptr _ _=>obtain⟨_,_,_,_,_,rfl⟩:=h.fptr_inv;rfl
 |nils=>rw[h.nils_inv];rfl
 |sl _ _ _=>obtain⟨_,_,_,_,_,rfl,_⟩:=h.sl_inv;rfl
 |own _ _ _ _=>obtain⟨_,_,_,_,_,_,_,rfl⟩:=h.own_inv;rfl
 |nilm=>rw[h.nilm_inv];rfl
 |map _=>obtain⟨_,_,rfl⟩:=h.map_inv;rfl
 |nilf=>rw[h.nilf_inv];rfl
 |nili=>rw[h.nili_inv];rfl
 |ifc=>obtain⟨_,_,rfl⟩:=h.ifc_inv;rfl
 |fn _ _=>obtain⟨_,_,rfl,_⟩:=h.fn_inv;rfl
theorem XU (c:Array Value) (vs:List Value) (o:Nat) (h:o+vs.length≤c.size) (x:Nat):(c.toList.take o++vs++c.toList.drop (o+vs.length)).toArray[x]? = if x<o then c[x]? else if x<o+vs.length then vs[x-o]? else c[x]? :=by
 have h1:(c.toList.take o).length=o:=by simp;omega
 simp only[List.getElem?_toArray];by_cases e1:x<o;{rw[if_pos e1,List.append_assoc,List.getElem?_append_left (by omega),List.getElem?_take_of_lt e1];simp};{rw[if_neg e1,List.append_assoc,List.getElem?_append_right (by omega),h1];by_cases e2:x<o+vs.length;{rw[if_pos e2,List.getElem?_append_left (by omega)]};{rw[if_neg e2,List.getElem?_append_right (by omega),List.getElem?_drop];(have:o+vs.length+(x-o-vs.length)=x:=by omega);rw[this];simp}}
theorem Ya (c:Array Value) (vs:List Value) (o:Nat) (h:o+vs.length≤c.size):(c.toList.take o++vs++c.toList.drop (o+vs.length)).toArray.size=c.size:=by simp;omega
theorem ZeM {id:Nat} {b:Box} (h:H.put id b=some H'):H.ro≤id∧H'={H with bx:=H.bx.set id b}:=by unfold Heap.put at h;split at h;{cases h};{cases h;exact⟨by omega,rfl⟩}
theorem Xa (w:World) (b:Nat) (old cs:Array Value) (T:TypeId) (fr:Nat×Nat) (h:w.heap[b]? = some (.cells old T fr)) (a:Addr):(w.setRow b cs).frozen? a=w.frozen? a:=by by_cases e:a.block=b;{simp only[World.frozen?,e,setRow_heap w b old cs T fr h,h]};{simp only[World.frozen?,setRow_other w b a.block cs e]}
theorem Zsu (hi:Inv g H w) (hp:V g p a) {vs:List Value} (hvl:VL g cs vs) (hc:cs.all ZL=true) (h:H.wr p cs=some H'):∃b o w',a= .pointer (some ⟨b,o,none⟩)∧(storeCells ⟨b,o,none⟩ vs).run P w= .ok () w'∧Inv g H' w'∧Keep g H w g H' w':=by
 unfold Heap.wr at h;split at h
 ·rename_i id es ix off;rw[Zm]at h;split at h
  ·rename_i es' el hb;split at h
   ·rename_i he;subst he;rw[Zm]at h;split at h
    ·rename_i old hold;split at h
     ·rename_i hle;obtain⟨hro,rfl⟩:=ZeM h;obtain⟨b,hσ,rfl⟩:=hp.ptr_inv;obtain⟨b',c,T,h1,h2,h3,h4,h5,h6⟩:=hi.bx _ _ _ hb;rw[hσ]at h1;cases h1;have hix:=Zz hold;have hel:=VV hold;have hlen:old.length=es:=hel ▸ h3 ix hix;have hvlen:vs.length=cs.length:=hvl.1;(have hup:ix*es+es≤el.length*es:=by have:=Nat.mul_le_mul_right es (show ix+1≤el.length from hix);rwa [Nat.add_mul,Nat.one_mul]at this);(have hfit:ix*es+off+vs.length≤c.size:=by omega);(have hone:∀v∈vs,v.oneCell'=true:=fun v hv=>by obtain⟨j,hj,rfl⟩:=List.mem_iff_getElem.1 hv;exact XR (hvl.2 j (by omega) hj) (List.all_eq_true.1 hc _ (List.getElem_mem _)));have hst:=run_storeCells_at (P:=P) b (ix*es+off) T vs 0 c w h2 (by omega) hone;rw[Nat.add_zero]at hst;refine⟨b,_,_,rfl,hst,?_⟩;refine Uc hi hro hb trivial hσ h6 (fun k hk=>setRow_other w b k _ hk) (by simp) (setRow_heap w b c _ T _ h2) (Xa w b c _ T _ h2) ?_ (fun es h=>by cases h) (fun c1 T1 m1 h=>by
       cases h
       rw[Ya _ _ _ hfit]
       exact hi.rm id b c T _ ⟨_,hb,trivial⟩ hσ h2) ⟨by simp,by simp⟩
      intro es0 el0 e0;cases e0;refine⟨_,T,rfl,fun i hi=>?_,?_,fun i hi j hj=>?_⟩;{rw[List.getElem_set];split;{simp;omega};{exact h3 i (by simpa using hi)}};{rw[Ya _ _ _ hfit];simpa using h4};{(have hi':i<el.length:=by simpa using hi);rw[XU _ _ _ hfit];by_cases e:i=ix;{subst e;(have e1:(el.set i (old.take off++(cs++old.drop (off+cs.length))))[i]'hi=old.take off++(cs++old.drop (off+cs.length)):=by simp);(have hje:j<es:=by rw[e1]at hj;simp at hj;omega);by_cases c1:j<off;{rw[if_pos (by omega)];obtain⟨v,q1,q2⟩:=h5 i hi' j (by rw[hel,hlen];exact hje);refine⟨v,q1,?_⟩;(have:((el.set i (old.take off++(cs++old.drop (off+cs.length))))[i]'hi)[j]=(el[i])[j]'(by rw[hel,hlen];exact hje):=by simp only[e1,hel];rw[List.getElem_append_left (by simp;omega)];simp);rw[this];exact q2};{rw[if_neg (by omega)];by_cases c2:j<off+cs.length;{rw[if_pos (by omega)];(have hk:j-off<vs.length:=by omega);(have ek:i*es+j-(i*es+off)=j-off:=by omega);refine⟨vs[j-off],by rw[ek];simp[hk],?_⟩;(have:((el.set i (old.take off++(cs++old.drop (off+cs.length))))[i]'hi)[j]=cs[j-off]'(by omega):=by simp only[e1];rw[List.getElem_append_right (by simp;omega),List.getElem_append_left (by simp;omega)];congr 1;simp;omega);rw[this];exact hvl.2 _ (by omega) hk};{rw[if_neg (by omega)];obtain⟨v,q1,q2⟩:=h5 i hi' j (by rw[hel,hlen];exact hje);refine⟨v,q1,?_⟩;(have:((el.set i (old.take off++(cs++old.drop (off+cs.length))))[i]'hi)[j]=(el[i])[j]'(by rw[hel,hlen];exact hje):=by simp only[e1,hel];rw[List.getElem_append_right (by simp;omega),List.getElem_append_right (by simp;omega)];simp only[List.getElem_drop];congr 1;simp;omega);rw[this];exact q2}}};{(have e1:(el.set ix (old.take off++(cs++old.drop (off+cs.length))))[i]'hi=el[i]:=by rw[List.getElem_set_ne (Ne.symm e)]);(have hje:j<es:=by rw[e1,h3 i hi']at hj;exact hj);(have hout:i*es+j<ix*es+off∨ix*es+off+vs.length≤i*es+j:=by rcases Nat.lt_or_gt_of_ne e with l|l;{have:=Nat.mul_le_mul_right es (show i+1≤ix from l);rw[Nat.add_mul,Nat.one_mul]at this;exact .inl (by omega)};{have:=Nat.mul_le_mul_right es (show ix+1≤i from l);rw[Nat.add_mul,Nat.one_mul]at this;exact .inr (by omega)});obtain⟨v,q1,q2⟩:=h5 i hi' j (by rw[h3 i hi'];exact hje);refine⟨v,?_,by simpa[e1] using q2⟩;by_cases c1:i*es+j<ix*es+off;{rw[if_pos c1];exact q1};{rw[if_neg c1,if_neg (by omega)];exact q1}}}
     {cases h}
    {cases h}
   {cases h}
  ·rename_i T old hb;split at h
   ·rename_i hc';obtain⟨rfl,rfl,hle⟩:=hc';obtain⟨hro,rfl⟩:=ZeM h;obtain⟨b,hσ,rfl⟩:=hp.ptr_inv;obtain⟨b',c,h1,h2,h3,h4,h6⟩:=hi.sp _ _ _ hb;rw[hσ]at h1;cases h1;have hvlen:vs.length=cs.length:=hvl.1;(have hfit:0*old.length+off+vs.length≤c.size:=by omega);(have hone:∀v∈vs,v.oneCell'=true:=fun v hv=>by obtain⟨j,hj,rfl⟩:=List.mem_iff_getElem.1 hv;exact XR (hvl.2 j (by omega) hj) (List.all_eq_true.1 hc _ (List.getElem_mem _)));have hst:=run_storeCells_at (P:=P) b (0*old.length+off) T vs 0 c w h2 (by omega) hone;rw[Nat.add_zero]at hst;refine⟨b,_,_,rfl,hst,?_⟩;refine Uc hi hro hb trivial hσ h6 (fun k hk=>setRow_other w b k _ hk) (by simp) (setRow_heap w b c _ T _ h2) (Xa w b c _ T _ h2) (fun es el h=>by cases h) (fun es h=>by cases h) (fun c1 T1 m1 h=>by
     cases h
     rw[Ya _ _ _ hfit]
     exact hi.rm id b c T _ ⟨_,hb,trivial⟩ hσ h2) ⟨by simp,by simp⟩ ?_
    intro T0 cs0 e0;cases e0;refine⟨_,rfl,?_,fun j hj=>?_⟩;{rw[Ya _ _ _ hfit];simp;omega};{rw[XU _ _ _ hfit];(have hje:j<old.length:=by simp at hj;omega);by_cases c1:j<off;{rw[if_pos (by omega)];obtain⟨v,q1,q2⟩:=h4 j hje;refine⟨v,q1,?_⟩;(have:(old.take off++(cs++old.drop (off+cs.length)))[j]'hj=old[j]:=by rw[List.getElem_append_left (by simp;omega)];simp);rw[this];exact q2};{rw[if_neg (by omega)];by_cases c2:j<off+cs.length;{rw[if_pos (by omega)];(have hk:j-off<vs.length:=by omega);(have ek:j-(0*old.length+off)=j-off:=by omega);refine⟨vs[j-off],by rw[ek];simp[hk],?_⟩;(have:(old.take off++(cs++old.drop (off+cs.length)))[j]'hj=cs[j-off]'(by omega):=by rw[List.getElem_append_right (by simp;omega),List.getElem_append_left (by simp;omega)];congr 1;simp;omega);rw[this];exact hvl.2 _ (by omega) hk};{rw[if_neg (by omega)];obtain⟨v,q1,q2⟩:=h4 j hje;refine⟨v,q1,?_⟩;(have:(old.take off++(cs++old.drop (off+cs.length)))[j]'hj=old[j]:=by rw[List.getElem_append_right (by simp;omega),List.getElem_append_right (by simp;omega)];simp only[List.getElem_drop];congr 1;simp;omega);rw[this];exact q2}}}
   {cases h}
  {cases h}
 {cases h}
theorem ZkY (hE:TOk E P) (hi:Inv g H w) {ti:TI} (ht:E.T t=some ti) {x:Value} (hp:V g p a) (hq:V g q x) (hl:q.cells.length=ti.size) (hpos:0<ti.size) (hc:q.cells.all ZL=true) (h:H.wr p q.cells=some H'):∃w',(Instr.storeAt t a x).run P w= .ok () w'∧Inv g H' w'∧Keep g H w g H' w':=by
 obtain⟨i,d,z,h1,h2,h3,rfl⟩:=hE.spec ht;simp only at hl hpos;have hvl:=hq.cells (by omega);obtain⟨b,o,w',rfl,hr,a1,a2⟩:=Zsu (P:=P) hi hp hvl hc h;refine⟨w',?_,a1,a2⟩;have hs:x.cells.size=i.size:=by have:=hvl.1;simp at this;omega
 simp[Instr.storeAt,Instr.sureAddr,storeVar,ZG h1,hs,hr]
end
theorem Zlq (l:List Value):∀(k off:Nat) (cs:Array Value),off+k+l.length≤cs.size→((l.zipIdx k).foldl (fun cs x=>cs.setIfInBounds (off+x.2) x.1) cs).toList=cs.toList.take (off+k)++(l++cs.toList.drop (off+k+l.length)):=by
 induction l with
 |nil=>intro k off cs h;simp
 |cons v l ih=>
  intro k off cs h;simp only[List.length_cons]at h;simp only[List.zipIdx_cons,List.foldl_cons];rw[ih (k+1) off _ (by simp;omega)];simp only[Array.toList_setIfInBounds,List.length_cons];apply List.ext_getElem?;intro x;have hk:off+k<cs.toList.length:=by simp;omega
  have e1:(List.take (off+(k+1)) (cs.toList.set (off+k) v))=cs.toList.take (off+k)++ [v]:=by rw[show off+(k+1)=off+k+1 from rfl,List.take_succ_eq_append_getElem (by simpa using hk)];simp[List.take_set_of_le]
  have e2:List.drop (off+(k+1)+l.length) (cs.toList.set (off+k) v)=cs.toList.drop (off+k+(l.length+1)):=by rw[List.drop_set_of_lt (by omega)];congr 1;omega
  rw[e1,e2];simp
section
variable {E:Env} {P:Program} {g:Gh} {H:Heap} {w:World}
theorem Zf2 (v:Value) (off:Nat) (cells:Array Value) (h:off+v.cells.size≤cells.size):(v.cells.zipIdx.foldl (fun cs (x:Value×Nat)=>cs.setIfInBounds (off+x.2) x.1) cells).toList=cells.toList.take off++(v.cells.toList++cells.toList.drop (off+v.cells.size)):=by rw[← Array.foldl_toList,Array.toList_zipIdx];have:=Zlq v.cells.toList 0 off cells (by simpa using h);simpa using this
theorem Zco (f:α→Sem β) (k:α→β) (l:List α) (h:∀x∈l,(f x).run P w= .ok (k x) w):(l.mapM f).run P w= .ok (l.map k) w:=by
 induction l with
 |nil=>simp
 |cons a l ih=>simp[List.mapM_cons,h a (by simp),ih (fun x hx=>h x (by simp[hx]))]
theorem ZaG (f:α→Sem β) (k:α→β) (l:Array α) (h:∀x∈l.toList,(f x).run P w= .ok (k x) w):(l.mapM f).run P w= .ok (l.map k) w:=by rw[Array.mapM_eq_mapM_toList,Sem.run_map,Zco f k _ h];simp only[Result.andThen_ok];congr 1;apply Array.ext';simp
def PL (g:Gh) (a:List (Nat×PV)) (b:List (Nat×Value)):Prop:=a.length=b.length∧∀i (hi:i<a.length) (hj:i<b.length),a[i].1=b[i].1∧V g a[i].2 b[i].2
theorem PL.cons_inv {i:Nat} {a:List (Nat×PV)} {b:List (Nat×Value)} (h:PL g ((i,p)::a) b):∃v b',b=(i,v)::b'∧V g p v∧PL g a b':=by
 cases b with
 |nil=>exact absurd h.1 (by simp)
 |cons x b'=>have h0:=h.2 0 (by simp) (by simp);simp only[List.getElem_cons_zero]at h0;obtain⟨j,v⟩:=x;obtain⟨rfl,hv⟩:=h0;refine⟨v,b',rfl,hv,by simpa using h.1,fun k hk hj=>?_⟩;exact h.2 (k+1) (by simpa using hk) (by simpa using hj)
theorem Znb (hE:TOk E P) {fa:Array Field}:∀{vals:List (Nat×Value)} {cells:List PV} {arr:Array Value} {cs:List PV},PL g parts vals→VL g cells arr.toList→(∀f∈fa.toList,∃ti,E.T f.type=some ti)→Zhd (fa.toList.map fun f=>(f.offset,f.type)) E cells parts=some cs→∃out,Instr.fill ((fa.map fun f=>(f.offset,((P.info? f.type).map (·.size)).getD 0))[·]?) arr vals=some out∧VL g cs out.toList∧cs.length=cells.length:=by
 induction parts with
 |nil=>
  intro vals cells arr cs hp hv _ h;have:vals= []:=by have:=hp.1;simpa using this.symm
  subst this;simp only[Zhd,Option.some.injEq]at h;subst h;exact⟨arr,rfl,hv,rfl⟩
 |cons x parts ih=>obtain⟨i,p⟩:=x;intro vals cells arr cs hp hv hT h;obtain⟨v,vals',rfl,hpv,hp'⟩:=hp.cons_inv;simp only[Zhd,Zm]at h;split at h;{rename_i o ft hf;split at h;{rename_i fi hfi;split at h;{rename_i hcond;obtain⟨hlen,hpos,hle⟩:=hcond;(obtain⟨fld,hfld,e⟩:∃fld,fa[i]? = some fld∧(fld.offset,fld.type)=(o,ft):=by simpa using hf);cases e;obtain⟨inf,d,z,h1,h2,h3,rfl⟩:=hE.spec hfi;simp only at hlen hpos hle h;(have hcl:cells.length=arr.size:=by have:=hv.1;simp at this;omega);{have hvl:=hpv.cells (by omega);(have hvs:v.cells.size=inf.size:=by have:=hvl.1;simp at this;omega);(have hfit:fld.offset+v.cells.size≤arr.size:=by omega);(have hnew:VL g (cells.take fld.offset++(p.cells++cells.drop (fld.offset+inf.size))) (v.cells.zipIdx.foldl (fun cs (x:Value×Nat)=>cs.setIfInBounds (fld.offset+x.2) x.1) arr).toList:=by rw[Zf2 v _ _ hfit,hvs];exact(hv.take _).append (hvl.append (hv.drop _)));obtain⟨out,ho,hvo,hlo⟩:=ih hp' hnew hT h;refine⟨out,?_,hvo,by rw[hlo];simp;omega⟩;(have hpl:(fa.map fun f=>(f.offset,((P.info? f.type).map (·.size)).getD 0))[i]? = some (fld.offset,inf.size):=by simp[hfld,h1]);simp only[Instr.fill,hpl];(have:¬ (v.cells.size≠inf.size||decide (fld.offset+v.cells.size > arr.size))=true:=by simp[hvs];omega);rw[if_neg (by simpa using this)];exact ho}};{cases h}};{cases h}};{cases h}
theorem ZkM (hE:TOk E P) (hp:PL g parts vals.toList) (h:Zav E t parts=some q):∃v,(Instr.build t vals).run P w= .ok v w∧V g q v:=by unfold Zav at h;split at h;{rename_i ti ht;obtain⟨i,d,z,h1,h2,h3,rfl⟩:=hE.spec ht;simp only at h;split at h;{rename_i fs hfs;obtain⟨fa,rfl,rfl⟩:=Vg hfs;split at h;{rename_i hall;obtain⟨hall,hpos⟩:=hall;split at h;{rename_i cs hcs;cases h;(have hT:∀f∈fa.toList,∃ti,E.T f.type=some ti:=fun f hf=>by have:=List.all_eq_true.1 hall (f.offset,f.type) (List.mem_map.2 ⟨f,hf,rfl⟩);exact Option.isSome_iff_exists.1 this);obtain⟨out,ho,hvo, -⟩:=Znb (P:=P) hE hp (VL.zero z hpos) hT hcs;refine⟨.agg out,?_,.agg _ _ (by have:=hvo.1;simpa using this) fun i hi=>by rw[← Array.getElem_toList];exact hvo.2 i hi (by have:=hvo.1;omega)⟩;(have hm:(fa.mapM fun f=>do pure (f.offset, ← sizeOf f.type):Sem (Array (Nat×Nat))).run P w= .ok (fa.map fun f=>(f.offset,((P.info? f.type).map (·.size)).getD 0)) w:=by refine ZaG _ _ _ fun f hf=>?_;obtain⟨ti,hti⟩:=hT f hf;obtain⟨i',d',z',h1',h2',h3',rfl⟩:=hE.spec hti;simp[ZG h1',h1']);simp only[Instr.build,Sem.run_bind,XD h1 h3,Result.andThen_ok,run_underlying h2,hm,ho];rfl};{cases h}};{cases h}};{cases h}};{cases h}
end
def RL (g:Gh) (es:Nat) (el:List (List PV)) (arr:Array Value):Prop:=
 (∀i (hi : i < el.length), (el[i]).length = es) ∧ el.length * es ≤ arr.size ∧
   ∀i (hi:i<el.length) j (hj:j<(el[i]).length),∃v,arr[i*es+j]? = some v∧V g ((el[i])[j]) v
theorem UO {i j:Nat} (hi:i<n) (hj:j<es):i*es+j<n*es:=by have:=Nat.mul_le_mul_right es (show i+1≤n from hi);rw[Nat.add_mul,Nat.one_mul]at this;omega
section
variable {E:Env} {P:Program} {g:Gh} {H:Heap} {w:World}
theorem Ul {p':PV} (h:V g p v) (hf:frz1 p=some p'):V0 g.S p' v:=by
 cases p<;>simp only[frz1,Option.some.injEq]at hf<;>first|cases hf|skip
 case bool=>rw[h.bool_inv];exact .bool _
 case int=>rw[h.int_inv];exact .int _ _
 case str=>obtain⟨b,rfl,e⟩:=h.str_inv;exact .str _ _ e
 case nilp=>rw[h.nilp_inv];exact .nilp
 case nils=>rw[h.nils_inv];exact .nils
 case nilm=>rw[h.nilm_inv];exact .nilm
 case nilf=>rw[h.nilf_inv];exact .nilf
 case nili=>rw[h.nili_inv];exact .nili
 case ifc=>obtain⟨t,q,rfl⟩:=h.ifc_inv;exact .ifc t q
 case sl=>
  cases h with
  | pure _ _ h=>exact h.sl_none
  | tok _ _ _ _ _ _ h _=>exact h
 case fptr=>cases h with|pure _ _ h=>exact h
theorem ZaA {cs':List PV} (h:Vn cs=some cs'):cs'.length=cs.length∧∀i (hi:i<cs.length) (hi':i<cs'.length),frz1 cs[i]=some cs'[i]:=by
 induction cs generalizing cs' with
 |nil=>simp only[Vn,Option.some.injEq]at h;subst h;exact⟨rfl,fun i hi=>absurd hi (by simp)⟩
 |cons c cs ih=>
  simp only[Vn]at h;split at h
  ·rename_i c' hc;split at h
   ·rename_i r' hr;cases h;obtain⟨h1,h2⟩:=ih hr;refine⟨by simp[h1],fun i hi hi'=>?_⟩;cases i with
    | zero=>simpa using hc
    | succ i=>exact h2 i (by simpa using hi) (by simpa using hi')
   {cases h}
  {cases h}
theorem QK {cs cs':List (List PV)} (h:Yo cs=some cs'):cs'.length=cs.length∧∀i (hi:i<cs.length) (hi':i<cs'.length),Vn cs[i]=some cs'[i]:=by
 induction cs generalizing cs' with
 |nil=>simp only[Yo,Option.some.injEq]at h;subst h;exact⟨rfl,fun i hi=>absurd hi (by simp)⟩
 |cons c cs ih=>
  simp only[Yo]at h;split at h
  ·rename_i c' hc;split at h
   ·rename_i r' hr;cases h;obtain⟨h1,h2⟩:=ih hr;refine⟨by simp[h1],fun i hi hi'=>?_⟩;cases i with
    | zero=>simpa using hc
    | succ i=>exact h2 i (by simpa using hi) (by simpa using hi')
   {cases h}
  {cases h}
theorem RL.frozen (h:RL g es el arr) (hf:Yo el=some el'):el'.length=el.length∧(∀i (hi:i<el'.length),(el'[i]).length=es)∧∀i (hi:i<el'.length) j (hj:j<(el'[i]).length),∃v,arr[i*es+j]? = some v∧V0 g.S ((el'[i])[j]) v:=by
 obtain⟨h1,h2⟩:=QK hf;have h3:∀i (hi:i<el'.length),(el'[i]).length=es:=fun i hi=>by rw[(ZaA (h2 i (by omega) hi)).1];exact h.1 i (by omega)
 refine⟨h1,h3,fun i hi j hj=>?_⟩;have hi':i<el.length:=by omega
 obtain⟨f1,f2⟩:=ZaA (h2 i hi' hi);obtain⟨v,e,x⟩:=h.2.2 i hi' j (by omega);exact⟨v,e,Ul x (f2 j (by omega) hj)⟩
theorem Zea (z:Value) (n es:Nat) (hes:(ofConst z).cells.length=es) (hpos:0<es):RL g es (List.replicate n (ofConst z).cells) ((Array.range (n*es)).map (z.cells[· % z.cells.size]!)):=by
 have hv:=VL.zero (g:=g) z (by omega);have hsz:z.cells.size=es:=by have:=hv.1;simp at this;omega
 refine⟨fun i hi=>by simpa using hes,by simp,fun i hi j hj=>?_⟩;have hi':i<n:=by simpa using hi
 have hj':j<es:=by simp at hj;omega
 have hlt:=UO hi' hj';have hmod:(i*es+j) % es=j:=by rw[Nat.add_comm,Nat.add_mul_mod_self_right,Nat.mod_eq_of_lt hj']
 refine⟨z.cells[j]'(by omega),?_,?_⟩;{simp[hlt,hsz,hmod,hj']};{have:=hv.2 j (by omega) (by simp;omega);simpa using this}
theorem Zgq:∀{vals:List (Nat×Value)} {el:List (List PV)} {arr:Array Value} {el':List (List PV)},PL g parts vals→RL g es el arr→arr.size=el.length*es→0<es→Zdp es el parts=some el'→∃out,Instr.fill (fun i=>some (i*es,es)) arr vals=some out∧RL g es el' out∧out.size=arr.size∧el'.length=el.length:=by
 induction parts with
 |nil=>
  intro vals el arr el' hp hv _ _ h;have:vals= []:=by have:=hp.1;simpa using this.symm
  subst this;simp only[Zdp,Option.some.injEq]at h;subst h;exact⟨arr,rfl,hv,rfl,rfl⟩
 |cons x parts ih=>
  obtain⟨i,p⟩:=x;intro vals el arr el' hp hv hsz hpos h;obtain⟨v,vals',rfl,hpv,hp'⟩:=hp.cons_inv;simp only[Zdp]at h;split at h
  ·rename_i hcond;obtain⟨hlen,hi⟩:=hcond;have hvl:=hpv.cells (by omega);(have hvs:v.cells.size=es:=by have:=hvl.1;simp at this;omega);(have hup:i*es+es≤el.length*es:=by have:=Nat.mul_le_mul_right es (show i+1≤el.length from hi);rwa [Nat.add_mul,Nat.one_mul]at this);(have hfit:i*es+v.cells.size≤arr.size:=by omega);have hout:=Zf2 v (i*es) arr hfit;(have harr:v.cells.zipIdx.foldl (fun cs (x:Value×Nat)=>cs.setIfInBounds (i*es+x.2) x.1) arr=(arr.toList.take (i*es)++v.cells.toList++arr.toList.drop (i*es+v.cells.toList.length)).toArray:=by apply Array.ext';rw[hout];simp);(have hfit':i*es+v.cells.toList.length≤arr.size:=by simpa using hfit);have hnew:RL g es (el.set i p.cells) (v.cells.zipIdx.foldl (fun cs (x:Value×Nat)=>cs.setIfInBounds (i*es+x.2) x.1) arr):=by
    rw[harr];refine⟨fun k hk=>?_,by rw[Ya _ _ _ hfit'];simpa using hv.2.1,fun k hk j hj=>?_⟩;{rw[List.getElem_set];split;{exact hlen};{exact hv.1 k (by simpa using hk)}}
    ·(have hk':k<el.length:=by simpa using hk);rw[XU _ _ _ hfit'];by_cases e:k=i;{subst e;(have e1:(el.set k p.cells)[k]'hk=p.cells:=by simp);(have hj':j<p.cells.length:=by simpa[e1] using hj);rw[if_neg (by omega),if_pos (by simp;omega)];(have ek:k*es+j-k*es=j:=by omega);refine⟨v.cells.toList[j]'(by rw[hvl.1];exact hj'),by rw[ek];exact List.getElem?_eq_getElem _,?_⟩;have q:=hvl.2 j hj' (by rw[hvl.1];exact hj');simp only[e1];exact q}
     ·(have e1 : (el.set i p.cells)[k]'hk = el[k] := by rw[List.getElem_set_ne (Ne.symm e)]);(have hj':j<(el[k]).length:=by rw[← e1];exact hj);(have hje:j<es:=by rw[hv.1 k hk']at hj';exact hj');have hout2:k*es+j<i*es∨i*es+v.cells.toList.length≤k*es+j:=by
       simp only[Array.length_toList];rcases Nat.lt_or_gt_of_ne e with l|l
       ·exact .inl (UO l hje |> fun h => by
          have:=Nat.mul_le_mul_right es (show k+1≤i from l)
          rw[Nat.add_mul,Nat.one_mul]at this
          omega)
       {have:=Nat.mul_le_mul_right es (show i+1≤k from l);rw[Nat.add_mul,Nat.one_mul]at this;exact .inr (by omega)}
      obtain⟨u,q1,q2⟩:=hv.2.2 k hk' j hj';refine⟨u,?_,by simpa[e1] using q2⟩;by_cases c1:k*es+j<i*es;{rw[if_pos c1];exact q1};{rw[if_neg c1,if_neg (by omega)];exact q1}
   obtain⟨out,ho,hvo,hso,hlo⟩:=ih hp' hnew (by rw[harr,Ya _ _ _ hfit'];simpa using hsz) hpos h;refine⟨out,?_,hvo,by rw[hso,harr,Ya _ _ _ hfit'],by rw[hlo];simp⟩;simp only[Instr.fill];rw[if_neg (by simp[hvs];omega)];exact ho
  {cases h}
theorem ZaH (hE:TOk E P) (hp:PL g parts vals.toList) (h:Z1 E t n parts=some (es,el)):∃e out,(Instr.buildSlice t n vals).run P w= .ok (.slice (some ⟨w.heap.size,0,none⟩) n n) (w.alloc (.cells out e))∧RL g es el out∧el.length=n∧out.size=n*es∧0<es∧n≤65536:=by unfold Z1 at h;split at h;{rename_i ti ht;obtain⟨i,d,z,h1,h2,h3,rfl⟩:=hE.spec ht;simp only at h;split at h;{rename_i e hd;have hd:=Yg hd;subst hd;split at h;{rename_i ei hei;obtain⟨i',d',z',h1',h2',h3',rfl⟩:=hE.spec hei;simp only at h;split at h;{rename_i hcond;obtain⟨hz,hpos,hsmall⟩:=hcond;split at h;{rename_i el0 hfill;simp only[Option.some.injEq,Prod.mk.injEq]at h;obtain⟨rfl,rfl⟩:=h;(have hlim:¬ n*i'.size > 2 ^ 24:=by omega);by_cases hn:n*i'.size=0;{(have hn0:n=0:=by rcases Nat.mul_eq_zero.1 hn with h|h;{exact h};{omega});subst hn0;obtain⟨out,ho,hv,hs,hl⟩:=Zgq (g:=g) hp (show RL g i'.size (List.replicate 0 (ofConst z').cells) #[] from⟨fun i hi=>absurd hi (by simp),by simp,fun i hi=>absurd hi (by simp)⟩) (by simp) hpos hfill;refine⟨e,out,?_,hv,by simpa using hl,by simpa using hs,hpos,Nat.le_trans (Nat.le_mul_of_pos_right _ hpos) hsmall⟩;have hr:Array.range 0=(#[]:Array Nat):=rfl;simp[Instr.buildSlice,run_underlying h2,ZG h1',hr,ho,newRow,newObj];rfl};{obtain⟨out,ho,hv,hs,hl⟩:=Zgq (g:=g) hp (Zea z' n i'.size hz hpos) (by simp) hpos hfill;refine⟨e,out,?_,hv,by simpa using hl,by simpa using hs,hpos,Nat.le_trans (Nat.le_mul_of_pos_right _ hpos) hsmall⟩;simp[Instr.buildSlice,run_underlying h2,ZG h1',XD h1' h3',hlim,hn,ho,newRow,newObj];rfl}};{cases h}};{cases h}};{cases h}};{cases h}};{cases h}
theorem Zg9 (hi:Inv g H w) (e:TypeId) (h:RL g es el arr) (hl:el.length=n) (hf:Yo el=some el'):∃g',V g' (.sl .full es el') (.slice (some ⟨w.heap.size,0,none⟩) n n)∧Inv g' H (w.alloc (.cells arr e))∧Keep g H w g' H (w.alloc (.cells arr e)):=by
 obtain⟨i1,k1⟩:=ZjE hi arr e arr.size;obtain⟨f1,f2,f3⟩:=h.frozen hf;have hS:∀o,(g.addS w.heap.size (ZeJ arr arr.size)).S w.heap.size o=arr[o]? :=fun o=>by simp only[Gh.addS,ZeJ,if_true];split;{rfl};{rename_i h;simp[Array.getElem?_eq_none (Nat.le_of_not_lt h)]}
 refine⟨_,?_,i1,k1⟩;refine V.sl_mk (fun i j=>arr[i*es+j]?.getD undef) (by omega) (by omega) f2 (fun i j hi hj=>?_) (fun i hi j hj=>?_) (by show n=_;omega);{rw[hS,Nat.zero_add];obtain⟨v,q,_⟩:=f3 i hi j (by rw[f2 i hi];exact hj);rw[q];rfl};{obtain⟨v,q,x⟩:=f3 i hi j hj;simp only[q,Option.getD_some];exact x.mono k1.le.S}
theorem Zd7 (hi:Inv g H w) (e:TypeId) (h:RL g es el arr) (cap:Nat) (hn:n≤cap) (hcs:cap*es≤arr.size) (hcm:cap≤9223372036854775807):∃g',V g' (.own H.bx.length es 0 n) (.slice (some ⟨w.heap.size,0,none⟩) n cap)∧Inv g' (H.push (.cells es el)) (w.alloc (.cells arr e))∧Keep g H w g' (H.push (.cells es el)) (w.alloc (.cells arr e)):=by
 obtain⟨i1,k1⟩:=Vv hi (.cells arr e) (.cells es el) rfl
  (fun es0 el0 h0=>by cases h0;exact⟨arr,e,rfl,h⟩) (fun es h=>by cases h) arr.size (fun c T m h=>by cases h;exact Nat.le_refl _)
 exact⟨_,.own _ _ _ _ w.heap.size cap _ (by simp[Gh.link]) hn (fun _=>by simp) rfl ⟨by simpa[Gh.link] using hcs,hcm⟩,i1,k1⟩
theorem ZbR (hE:TOk E P) (hi:Inv g H w) (hp:PL g parts vals.toList) (h:Z1 E t n parts=some (es,el)):(∀el',Yo el=some el'→∃v w' g',(Instr.buildSlice t n vals).run P w= .ok v w'∧V g' (.sl .full es el') v∧Inv g' H w'∧Keep g H w g' H w')∧∃v w' g',(Instr.buildSlice t n vals).run P w= .ok v w'∧V g' (.own H.bx.length es 0 n) v∧Inv g' (H.push (.cells es el)) w'∧Keep g H w g' (H.push (.cells es el)) w':=by obtain⟨e,out,hr,hv,hl,hs,hpos,hn6⟩:=ZaH (w:=w) hE hp h;refine⟨fun el' hf=>?_,?_⟩;{obtain⟨g',a,b,c⟩:=Zg9 hi e hv hl hf;exact⟨_,_,g',hr,a,b,c⟩};{obtain⟨g',a,b,c⟩:=Zd7 hi (n:=n) e hv n (Nat.le_refl _) (by omega) (by omega);exact⟨_,_,g',hr,a,b,c⟩}
theorem ZcR (hE:TOk E P) (hi:Inv g H w) {l c:PV} {lv cv:Value} (hl:V g l lv) (hc:V g c cv) (h:Xn E t l c H=some (q,H')):∃v w' g',(Instr.makeSlice t lv cv).run P w= .ok v w'∧V g' q v∧Inv g' H' w'∧Keep g H w g' H' w':=by
 unfold Xn at h;split at h
 ·rename_i ti ht;obtain⟨i,d,z,h1,h2,h3,rfl⟩:=hE.spec ht;simp only at h;split at h
  ·rename_i e hd;have hd:=Yg hd;subst hd;split at h
   ·rename_i ei n m hei hn hm;obtain⟨i',d',z',h1',h2',h3',rfl⟩:=hE.spec hei;obtain⟨k,rfl⟩:=Uk hn;obtain⟨k',rfl⟩:=Uk hm;obtain rfl:=hl.int_inv;obtain rfl:=hc.int_inv;simp only at h;split at h
    ·rename_i hcond;obtain⟨hz,hpos,hby,hmx⟩:=hcond;split at h
     ·rename_i he;subst he;cases h;have hrun:=run_make (P:=P) w t e i' z' h2 h1' h3' k k' (n:Int) (n:Int) (by omega) (by omega) (by
       have:i'.bytes*n≤140737488355328:=by rw[Nat.mul_comm];exact hby
       have h2:((i'.bytes*n:Nat):Int)≤((140737488355328:Nat):Int):=Int.ofNat_le.2 this
       rw[Int.natCast_mul]at h2
       omega) (by omega)
      obtain⟨g',a,b,c⟩:=Zd7 hi (n:=n) e (Zea (g:=g) z' n i'.size hz hpos) n (Nat.le_refl _) (by rw[Array.size_map,Array.size_range];exact Nat.le_refl _) (by omega);exact⟨_,_,g',hrun,a,b,c⟩
     {cases h}
    {cases h}
   {cases h}
  {cases h}
 {cases h}
theorem Zg5 (hi:Inv g H w) (t:TypeId):∃v w' g',(Instr.makeMap t none).run P w= .ok v w'∧V g' (.map H.bx.length) v∧Inv g' (H.push (.map [])) w'∧Keep g H w g' (H.push (.map [])) w':=by obtain⟨i1,k1⟩:=Vv hi (.map #[] 0) (.map []) trivial (fun es el h=>by cases h) (fun es h=>by cases h;exact⟨#[],0,rfl,rfl,fun i hi=>absurd hi (by simp)⟩);refine⟨.map (some w.heap.size),_,_,?_,.map _ w.heap.size (by simp[Gh.link]),i1,k1⟩;simp[Instr.makeMap,newObj];rfl
end
section
variable {E:Env} {P:Program} {g:Gh} {H:Heap} {w:World}
theorem Zp5 (hE:TOk E P) (hi:Inv g H w) {ty:TypeId} (hp:V g p a) (h:Zc0 E t p H=some q):∃v,(Builtin.len_ #[t] ty #[a]).run P w= .ok v w∧V g q v:=by unfold Zc0 at h;split at h;{rename_i ti ht;obtain⟨i,d,z,h1,h2,h3,rfl⟩:=hE.spec ht;simp only at h;split at h;{rename_i s hd;have hd:=YE hd;subst hd;cases h;obtain⟨b,rfl,rfl⟩:=hp.str_inv;exact⟨_,by simp[Builtin.len_,run_underlying h2];rfl,.pure _ _ (.int _ _)⟩};{rename_i e tl es el hd;have hd:=Yg hd;subst hd;cases h;obtain⟨b,o,cap,vals,a,rfl, -⟩:=hp.sl_inv;exact⟨_,by simp[Builtin.len_,run_underlying h2];rfl,.pure _ _ (.int _ _)⟩};{rename_i e hd;have hd:=Yg hd;subst hd;cases h;obtain rfl:=hp.nils_inv;exact⟨_,by simp[Builtin.len_,run_underlying h2];rfl,.pure _ _ (.int _ _)⟩};{rename_i e id es ix len hd;have hd:=Yg hd;subst hd;cases h;obtain⟨b,cap,a, -, -, -, -,rfl⟩:=hp.own_inv;exact⟨_,by simp[Builtin.len_,run_underlying h2];rfl,.pure _ _ (.int _ _)⟩};{rename_i k e hd;have hd:=Zdq hd;subst hd;cases h;obtain rfl:=hp.nilm_inv;exact⟨_,by simp[Builtin.len_,run_underlying h2];rfl,.pure _ _ (.int _ _)⟩};{rename_i k e id hd;have hd:=Zdq hd;subst hd;rw[Zm]at h;split at h;{rename_i es hb;cases h;obtain⟨b,hσ,rfl⟩:=hp.map_inv;obtain⟨b',ents,clk,q1,q2,q3,q4⟩:=hi.mp _ _ hb;rw[hσ]at q1;cases q1;refine⟨.int .i64 (ents.size:Int),?_,by rw[q3];exact .pure _ _ (.int _ _)⟩;simp[Builtin.len_,run_underlying h2,getObj,Sem.run,q2,goInt]};{cases h}};{rename_i n e p' hd;have hd:=QN hd;subst hd;cases h;exact⟨_,by simp[Builtin.len_,run_underlying h2];rfl,.pure _ _ (.int _ _)⟩};{cases h}};{cases h}
def ZqS (p:PV) (d:TypeDesc):Prop:=match p with
 | .str _=>d= .string
 | .int kk _=>d= .int kk
 | .bool _=>d= .bool
 |_=>False
theorem ByteArray.beq_iff {a b:ByteArray} (h:(a==b)=true):a=b:=by have:a.data==b.data:=h;cases a;cases b;congr 1;simpa using this
theorem ByteArray.beq_refl (b:ByteArray):(b==b)=true:=by show(b.data==b.data)=true;simp
theorem Zc1 (hp:V g p k) (hq:V g q v) {b:Bool} (h:ZeX p q=some b) (hd:ZqS p d):Instr.sameNow d k v=some b:=by
 cases p<;>cases q<;>simp only[ZeX]at h<;>first|cases h|skip
 {subst hd;rw[hp.bool_inv,hq.bool_inv];rfl};{subst hd;split at h;{rename_i e;subst e;cases h;rw[hp.int_inv,hq.int_inv];simp[Instr.sameNow]};{cases h}}
 ·subst hd;obtain⟨a,rfl,rfl⟩:=hp.str_inv;obtain⟨b,rfl,rfl⟩:=hq.str_inv;simp only[Instr.sameNow];congr 1;rw[Bool.eq_iff_iff];exact⟨fun e=>by
   have:=ByteArray.beq_iff e
   simp[this],fun e=>by
   have:a=b:=by cases a;cases b;congr 1;exact Array.toList_inj.1 (by simpa using e)
   rw[this];exact ByteArray.beq_refl b⟩
theorem Zbf (hE:TOk E P) (h:Zdj E t p=true):∃d,P.underlying t=some d∧ZqS p d:=by
 unfold Zdj at h;split at h
 ·rename_i ti ht;obtain⟨i,d,z,h1,h2,h3,rfl⟩:=hE.spec ht;simp only at h;refine⟨d,h2,?_⟩;cases p<;>cases e:VT d<;>simp only[e]at h<;>first|cases h|skip
  {exact ZeI e};{simp at h;subst h;exact QY e};{exact YE e}
 {cases h}
theorem Qm (hp:V g p k) (h2:P.underlying t=some d) (hd:ZqS p d) (e:Bool) (n:Nat):(Instr.checkKey e (n+1) t k).run P w= .ok () w:=by
 cases p<;>first|exact hd.elim|skip
 {obtain rfl:=hp.bool_inv;have hd:d= .bool:=hd;subst hd;simp[Instr.checkKey,run_underlying h2]};{obtain rfl:=hp.int_inv;have hd:d= .int _:=hd;subst hd;simp[Instr.checkKey,run_underlying h2]};{obtain⟨b,rfl, -⟩:=hp.str_inv;have hd:d= .string:=hd;subst hd;simp[Instr.checkKey,run_underlying h2]}
theorem ZfL (hp : V g p k) (hd : ZqS p d) :
  ∀(es:List (PV×PV)) (ents:List MapEntry) (i:Nat) (r:Option (Nat×PV)),ents.length=es.length→(∀j (hj:j<es.length) (hj':j<ents.length),V g (es[j]).1 (ents[j]).key∧V g (es[j]).2 (ents[j]).val)→V7 p es i=some r→
  match r with
  | none=>Instr.findNow d k ents i=some none
  | some (m,pv)=>i≤m∧m-i<es.length∧∃(_:m-i<es.length) (hm':m-i<ents.length),Instr.findNow d k ents i=some (some (m,(ents[m-i]).val))∧V g pv (ents[m-i]).val∧Instr.sameNow d k (ents[m-i]).key=some true:=by
 intro es;induction es with
 |nil=>
  intro ents i r hl hv h;have:ents= []:=by simpa using hl
  subst this;simp only[V7,Option.some.injEq]at h;subst h;rfl
 |cons x es ih=>
  intro ents i r hl hv h;obtain⟨kx,vx⟩:=x;cases ents with
  | nil=>simp at hl
  | cons e ents=>
   have h0:=hv 0 (by simp) (by simp);simp only[List.getElem_cons_zero]at h0;simp only[V7]at h;split at h;{rename_i hk;cases h;have hn:=Zc1 hp h0.1 hk hd;refine⟨Nat.le_refl _,by simp,by simp,by simp,?_,by simpa using h0.2,by simpa using hn⟩;simp[Instr.findNow,hn]}
   ·rename_i hk;have hn:=Zc1 hp h0.1 hk hd;have:=ih ents (i+1) r (by simpa using hl) (fun j hj hj'=>hv (j+1) (by simpa using hj) (by simpa using hj')) h;match r,this with
    | none,q=>simp only[Instr.findNow,hn];exact q
    | some (m,pv),⟨q1,q2,q3,q4,q5,q6,q7⟩=>(have em:m-i=(m-(i+1))+1:=by omega);refine⟨by omega,by simp;omega,by simp;omega,by simp;omega,?_,?_,?_⟩;{simp only[Instr.findNow,hn,q5,em,List.getElem_cons_succ]};{simpa only[em,List.getElem_cons_succ] using q6};{simpa only[em,List.getElem_cons_succ] using q7}
   {cases h}
theorem ZiR (hE:TOk E P) (hi:Inv g H w) (hp:V g p a) (hq:V g q k) {ok:Bool} (h:Wg E t p q ok H=some r):∃v,(Instr.lookup t a k ok).run P w= .ok v w∧V g r v:=by
 unfold Wg at h;split at h
 ·rename_i ti ht;obtain⟨i,d,z,h1,h2,h3,rfl⟩:=hE.spec ht;simp only at h;split at h
  ·rename_i kt e hd;have hd:=Zdq hd;subst hd;split at h
   ·rename_i hk;obtain⟨kd,k1,k2⟩:=Zbf hE hk;have hmk:∀(vv:Value) (pp:PV) (b:Bool),V g pp vv→V g (if ok then .tup [pp,.bool b] else pp) (if ok then .tuple #[vv,.bool b] else vv):=fun vv pp b hv=>by
     cases ok;{exact hv}
     ·refine .tup _ _ rfl fun i hi=>?_;match i,hi with
      | 0,_=>exact hv
      | 1,_=>exact .pure _ _ (.bool b)
    have fin : ∀(es : List (PV × PV)) (ents : Array MapEntry), ents.size = es.length → (∀i (hi : i < es.length), ∃e, ents[i]? = some e ∧ V g (es[i]).1 e.key ∧ V g (es[i]).2 e.val) →
      (match V7 q es 0 with
        | some (some (_,v))=>some (if ok then PV.tup [v,.bool true] else v)
        | some none => match E.T e with
          | some ei=>some (if ok then PV.tup [ei.zero,.bool false] else ei.zero)
          | none=>none
        | none=>none)=some r→
      (Instr.checkKey ents.isEmpty 10000 kt k).run P w= .ok () w∧
      ((∃m vv,(Instr.findKey kt k ents.toList).run P w= .ok (some (m,vv)) w∧V g r (if ok then .tuple #[vv,.bool true] else vv))∨
       (∃z',(Instr.findKey kt k ents.toList).run P w= .ok none w∧(zeroValue e).run P w= .ok z' w∧V g r (if ok then .tuple #[z',.bool false] else z'))):=by
     intro es ents hsz hents hr
     have hv:∀j (hj:j<es.length) (hj':j<ents.toList.length),V g (es[j]).1 (ents.toList[j]).key∧V g (es[j]).2 (ents.toList[j]).val:=fun j hj hj'=>by
      obtain⟨e,q1,q2⟩:=hents j hj
      have:ents.toList[j]=e:=by
       have hj2:j<ents.size:=by simpa using hj'
       rw[Array.getElem?_eq_getElem hj2]at q1
       simpa using q1
      rw[this];exact q2
     have hck:=Qm (P:=P) (w:=w) hq k1 k2 ents.isEmpty 9999
     cases hf:V7 q es 0 with
     | none=>simp[hf]at hr
     | some o =>
       have:=ZfL hq k2 es ents.toList 0 o (by simpa using hsz) hv hf
       match o,this with
       | none, hnow =>
         simp only[hf]at hr
         split at hr
         · rename_i ei hei
           obtain⟨i',d',z',h1',h2',h3',rfl⟩:=hE.spec hei
           simp only[Option.some.injEq]at hr
           subst hr
           exact⟨hck,.inr ⟨z',by simp[Instr.findKey,run_underlying k1,hnow],XD h1' h3' w,hmk z' _ false (.pure _ _ (V0.ofConst g.S z'))⟩⟩
         · cases hr
       | some (m, pv), ⟨_, _, hm, hm', hnow, hval, _⟩ =>
         simp only[hf,Option.some.injEq]at hr
         subst hr
         exact⟨hck,.inl ⟨m,_,by simp[Instr.findKey,run_underlying k1,hnow],hmk _ _ true hval⟩⟩
    split at h;{rename_i es hes;split at hes;{cases hes;obtain rfl:=hp.nilm_inv;obtain⟨c1,⟨m,vv,c2,c3⟩|⟨z',c2,c3,c4⟩⟩:=fin [] #[] rfl (fun i hi=>absurd hi (by simp)) h;{simp at c1 c2;exact⟨_,by simp[Instr.lookup,run_underlying h2,c1,c2],c3⟩};{simp at c1 c2;exact⟨_,by simp[Instr.lookup,run_underlying h2,c1,c2,c3],c4⟩}};{rename_i id;rw[Zm]at hes;split at hes;{rename_i es' hb;cases hes;obtain⟨b,hσ,rfl⟩:=hp.map_inv;obtain⟨b',ents,clk,q1,q2,q3,q4,q5⟩:=hi.mp _ _ hb;rw[hσ]at q1;cases q1;obtain⟨c1,⟨m,vv,c2,c3⟩|⟨z',c2,c3,c4⟩⟩:=fin es ents q3 q4 h;{exact⟨_,by simp[Instr.lookup,run_underlying h2,getObj,Sem.run,q2,c1,c2],c3⟩};{exact⟨_,by simp[Instr.lookup,run_underlying h2,getObj,Sem.run,q2,c1,c2,c3],c4⟩}};{cases hes}};{cases hes}};{cases h}
   {cases h}
  {cases h}
 {cases h}
theorem Zdh (hE:TOk E P) (hi:Inv g H w) {x:Value} (hp:V g p a) (hq:V g q k) (hr:V g r x) (h:Yj E t p q r H=some H'):∃w',(Instr.mapUpdate t a k x).run P w= .ok () w'∧Inv g H' w'∧Keep g H w g H' w':=by
 unfold Yj at h;split at h
 ·rename_i ti ht;obtain⟨i,d,z,h1,h2,h3,rfl⟩:=hE.spec ht;simp only at h;split at h
  ·rename_i kt e id hd;have hd:=Zdq hd;subst hd;split at h
   ·rename_i hk;obtain⟨kd,k1,k2⟩:=Zbf hE hk;rw[Zm]at h;split at h
    ·rename_i es hb;obtain⟨b,hσ,rfl⟩:=hp.map_inv;obtain⟨b',ents,clk,q1,q2,q3,q4,q5⟩:=hi.mp _ _ hb;rw[hσ]at q1;cases q1;have hck:=Qm (P:=P) (w:=w) hq k1 k2 false 9999;(have hv:∀j (hj:j<es.length) (hj':j<ents.toList.length),V g (es[j]).1 (ents.toList[j]).key∧V g (es[j]).2 (ents.toList[j]).val:=fun j hj hj'=>by obtain⟨e,q1,q2⟩:=q4 j hj;(have:ents.toList[j]=e:=by(have hj2:j<ents.size:=by simpa using hj');rw[Array.getElem?_eq_getElem hj2]at q1;simpa using q1);rw[this];exact q2);have hblt:b<w.heap.size:=hi.sz _ _ hσ;have done : ∀(ents' : Array MapEntry) (clk' : Nat) (es' : List (PV × PV)) (H' : Heap), H.put id (.map es') = some H' → ents'.size = es'.length → (∀i (hi : i < es'.length), ∃e, ents'[i]? = some e ∧ V g (es'[i]).1 e.key ∧ V g (es'[i]).2 e.val) →
       (setObj b (.map ents' clk')).run P w= .ok () {w with heap:=w.heap.setIfInBounds b (.map ents' clk')}∧
       Inv g H' {w with heap:=w.heap.setIfInBounds b (.map ents' clk')}∧Keep g H w g H' {w with heap:=w.heap.setIfInBounds b (.map ents' clk')}:=by
      intro ents' clk' es' H' hput hsz hents
      obtain⟨hro,rfl⟩:=ZeM hput
      refine⟨by simp[setObj,Sem.run,q2],Uc (ob:= .map ents' clk') hi hro hb trivial hσ q5 (fun k hk=>?_) (by simp) (by simp[hblt]) (fun a=>?_) (fun es el h=>by cases h) (fun es h=>by cases h;exact⟨ents',clk',rfl,hsz,hents⟩) (fun c T m h=>by cases h) .rfls⟩
      · simp[Ne.symm hk]
      · by_cases e : a.block = b
        · simp only[World.frozen?, e, q2]
          simp[hblt]
        · simp only[World.frozen?]
          rw[show({w with heap:=w.heap.setIfInBounds b (.map ents' clk')}:World).heap[a.block]? = w.heap[a.block]? by simp[Ne.symm e]]
     cases hf:V7 q es 0 with
     | none=>simp[hf]at h
     | some o=>
      have:=ZfL hq k2 es ents.toList 0 o (by simpa using q3) hv hf;match o,this with
      | none,hnow=>
       simp only[hf]at h;obtain⟨d1,d2,d3⟩:=done (ents.push {key:=k,val:=x,born:=clk}) (clk+1) _ _ h (by simp[q3]) (fun i hi=>by
        by_cases e:i<es.length
        · obtain⟨e0, p1, p2⟩ := q4 i e
          refine⟨e0,?_,?_⟩
          · rw[Array.getElem?_push_lt (by omega)]
            rw[Array.getElem?_eq_getElem (by omega)]at p1
            exact p1
          · rw[List.getElem_append_left e];exact p2
        · have : i = es.length := by simp at hi; omega
          subst this
          refine⟨{key:=k,val:=x,born:=clk},by rw[← q3];simp,?_⟩
          simpa using ⟨hq,hr⟩)
       refine⟨_,?_,d2,d3⟩;simp[Instr.mapUpdate,run_underlying h2,getObj,Sem.run,q2,hck,Instr.findKey,run_underlying k1,hnow,d1]
      | some (m,pv),⟨_,hm,_,hm',hnow,hval,hsame⟩=>
       simp only[hf]at h;simp only[Nat.sub_zero]at hm hm' hnow hval hsame;(have hms:m<ents.size:=by simpa using hm');(have hkeys:(Instr.keyThatStays (((ents[m]?).map (·.key)).getD k) k).run P w= .ok k w:=by(have e1:((ents[m]?).map (·.key)).getD k=(ents.toList[m]).key:=by simp[hms]);rw[e1];(have:Instr.sameBits 10000 (ents.toList[m]).key k=true:=by generalize (ents.toList[m]).key=k' at hsame;(cases q<;>first|exact k2.elim|skip);{obtain rfl:=hq.bool_inv;have k2:kd= .bool:=k2;subst k2;cases k'<;>simp[Instr.sameNow]at hsame;subst hsame;simp[Instr.sameBits]};{obtain rfl:=hq.int_inv;have k2:kd= .int _:=k2;subst k2;cases k'<;>simp[Instr.sameNow]at hsame;obtain⟨rfl,rfl⟩:=hsame;simp[Instr.sameBits]};{obtain⟨b,rfl, -⟩:=hq.str_inv;have k2:kd= .string:=k2;subst k2;cases k'<;>simp[Instr.sameNow]at hsame;have:=ByteArray.beq_iff (by simpa using hsame);subst this;simp only[Instr.sameBits];exact ByteArray.beq_refl _});unfold Instr.keyThatStays;rw[if_pos this];rfl);obtain⟨d1,d2,d3⟩:=done (ents.modify m fun e=>{e with key:=k,val:=x}) clk _ _ h (by simp[q3]) (fun i hi=>by
        have hi':i<es.length:=by simpa using hi
        obtain⟨e0,p1,p2⟩:=q4 i hi'
        by_cases e:m=i
        · subst e
          refine⟨{e0 with key:=k,val:=x},by simp[Array.getElem?_modify,p1],?_⟩
          simpa using ⟨hq,hr⟩
        · refine⟨e0, by simp[Array.getElem?_modify, e, p1], ?_⟩
          rw[List.getElem_set_ne e];exact p2)
       refine⟨_,?_,d2,d3⟩;simp[Instr.mapUpdate,run_underlying h2,getObj,Sem.run,q2,hck,Instr.findKey,run_underlying k1,hnow,hkeys,d1]
    {cases h}
   {cases h}
  {cases h}
 {cases h}
end
