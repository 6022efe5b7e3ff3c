/-
  Sums and products hang on no nil-ness (plain law).
-/
import Derived.Test.YtnghnjdabbjcnaaGreatDoorVFg
import Derived.Laws.IdiomCopy
import Derived.WideShapes
import Derived.Lib.ItoaNum
import Derived.Lib.AtoiAll
namespace Go.Vm
variable {l r:List Tm} {bT u:TypeId} {f:FuncId} {fn:Func} {by_ es i:Nat} {a b t x:Tm} {L el:List (List PV)} {cs:List PV} {ti:TI}
open Go.RowKit
section
variable {P:Program} (w:World)
theorem Zjw {e:TypeId} (hc:P.cellsOf e=1) (count off n:Nat) (hn:off+n≤count):liesAt P P.depth e count off e n=true:=by have hd:P.depth=(2*(P.types.size+Made.depth)+1)+1:=rfl;rw[hd];simp only[liesAt,Bool.or_eq_true];left;rw[hd];simp[rowAt,hc,hn,sameLayout,Nat.mod_one]
theorem Uf (pt it ty e:TypeId) (hp:P.underlying pt=some (.pointer e)) (hc:P.cellsOf e=1) (g o cells:Nat) (hsh:w.shape? g=some (e,cells)) (l:List UInt8) (h0:l≠ []) (hn:o+l.length≤cells) (h63:l.length≤9223372036854775807) (hcell:∀j x,l[j]? = some x→w.cell? ((⟨g,o,none⟩:Addr).add j)=some (.int .u8 x.toNat)):(Builtin.unsafeString_ #[pt,it] ty #[.pointer (some ⟨g,o,none⟩),.int .i64 l.length]).run P w= .ok (.string ⟨l.toArray⟩) (w.freeze ⟨g,o,none⟩ l.length):=by
 have hl:l.length≠0:=by simpa using h0
 have hlb:=Lib.run_loadBytes (P:=P) w l ⟨g,o,none⟩ .empty hcell;have hlies:=Zjw (P:=P) hc (cells / P.cellsOf e) o l.length (by rw[hc];simpa using hn);have h63':¬ (9223372036854775807:Int)<(l.length:Int):=by omega
 have hneg:¬ (l.length:Int)<0:=by omega
 have hmax:IntKind.i64.max=9223372036854775807:=rfl;change Sem.run P (asInt (.int .i64 l.length) >>= _) w=_;simp[asInt,asIntOf,hmax,h63',hneg,hl,variablesAt,hsh,elemOf,run_underlying hp,hlies,hlb]
end
section
variable {g:Gh} {H:Heap} {w w':World}
theorem Zkh (hi:Inv g H w) {k bb lo:Nat} {hi':Nat×TypeId} {l:List Nat} (hk:k∈H.live) (hτ:g.τ k=some (bb,lo,hi')) (hl:l.Sublist H.live) (hn:∀x,x∈l→x≠k) (hh:∀b,b≠bb→w'.heap[b]? = w.heap[b]?) (hc:∀o,w'.cell? ⟨bb,o,none⟩=w.cell? ⟨bb,o,none⟩) (hs:w'.heap.size=w.heap.size) (hso:SameOut g w w'):Inv g {H with live:=l} w'∧Keep g H w g {H with live:=l} w':=by have hbx:∀id b,H.liveAt id→g.σ id=some b→b≠bb:=fun id b h1 h2 e=>(hi.tk k bb lo hi' hk hτ).2.2 id h1 (by rw[h2,e]);refine⟨⟨fun b o v h=>?_,fun id es el h=>?_,fun id es h=>?_,fun id T cs h=>?_,hi.inj,hi.sd,hi.td,fun t b lo2 hi2 h1 h2=>?_,fun t t' b a1 a2 b1 b2 h1 h2=>hi.tinj t t' b a1 a2 b1 b2 (hl.subset h1) (hl.subset h2),hi.nd.sublist hl,fun t h=>hi.lt t (hl.subset h),fun id b h=>by rw[hs];exact hi.sz id b h,hi.ro,fun id b c T m h1 h2 h3=>?_⟩,⟨.refl g,fun b hb hsh=>hh b fun e=>hsh.2 k lo hi' hk (by rw[e];exact hτ),fun _ _ _ _=>rfl,by rw[hs];exact Nat.le_refl _,fun i b h h'=>(by rw[h]at h';cases h'),fun i b _ _ h h'=>(by rw[h]at h';cases h'),rfl,Nat.le_refl _,fun _ _=>rfl,Nat.le_refl _,fun _ h=> .inl (hl.subset h),fun _ _ _ h=>h,fun _ _ h=>h,hso⟩⟩;{by_cases e:b=bb;{subst e;rw[hc];exact hi.st _ _ _ h};{rw[cell_of_heap (hh b e)];exact hi.st _ _ _ h}};{obtain⟨b,c,T,h1,h2,h3⟩:=hi.bx id es el h;exact⟨b,c,T,h1,by rw[hh b (hbx id b ⟨_,h,trivial⟩ h1)];exact h2,h3⟩};{obtain⟨b,c,T,h1,h2,h3⟩:=hi.mp id es h;exact⟨b,c,T,h1,by rw[hh b (hbx id b ⟨_,h,trivial⟩ h1)];exact h2,h3⟩};{obtain⟨b,c,h1,h2,h3⟩:=hi.sp id T cs h;exact⟨b,c,h1,by rw[hh b (hbx id b ⟨_,h,trivial⟩ h1)];exact h2,h3⟩};{obtain⟨⟨c,T,h3,h4⟩,h5,h6⟩:=hi.tk t b lo2 hi2 (hl.subset h1) h2;have e:b≠bb:=fun e=>hn t h1 (hi.tinj t k bb lo2 hi2 lo hi' (hl.subset h1) hk (e ▸ h2) hτ);exact⟨⟨c,T,by rw[hh b e];exact h3,h4⟩,h5,h6⟩};{rw[hh b (hbx id b h1 h2)]at h3;exact hi.rm id b c T m h1 h2 h3}
end
noncomputable def ccZ (bT:TypeId):ZF:=fun args H=>match args with
 | [.ptr id es ix off] => match Nat.beq es 2 && (Nat.beq ix 0 && Nat.beq off 0) with
   | true => match nth H.bx id with
     | some (.sp T cs) => match cs with
       | [p, v] => match Nat.beq T bT with
         | true => match p with
           | .nilp => match Nat.ble H.ro id with
             | true=>some (.tup [],{H with bx:=H.bx.set id (.sp T [.ptr id 2 0 0,v])})
             | false=>none
           | .ptr i es' ix' off' => match Nat.beq i id && (Nat.beq es' 2 && (Nat.beq ix' 0 && Nat.beq off' 0)) with
             | true=>some (.tup [],H)
             | false=>none
           | _=>none
         | false=>none
       | _=>none
     | _=>none
   | false=>none
 |_=>none
theorem Uo (w:World) (b k:Nat) (v:Value) (o:Nat) (h:k≠b):(w.setCell ⟨b,o,none⟩ v).heap[k]? = w.heap[k]? :=by simp only[World.setCell,Array.getElem?_modify];rw[if_neg (Ne.symm h)]
theorem ZgC (w:World) (b:Nat) (v c0 c1:Value) (T:TypeId) (fr:Nat×Nat) (h:w.heap[b]? = some (.cells #[c0,c1] T fr)):(w.setCell ⟨b,0,none⟩ v).heap[b]? = some (.cells #[v,c1] T fr):=by simp only[World.setCell,Array.getElem?_modify,h];simp
theorem ZmI (w:World) (b o:Nat) (c:Array Value) (T:TypeId) (fr:Nat×Nat) (h:w.heap[b]? = some (.cells c T fr)):w.cell? ⟨b,o,none⟩=c[o]? :=by simp[World.cell?,h]
theorem Zl5 {c:Array Value} (h:c.size=2):∃a b,c= #[a,b]:=by
 obtain⟨l⟩:=c;match l,h with
 | [a,b],_=>exact⟨a,b,rfl⟩
section
variable {E:Env} {P:Program}
theorem Zs6 {c:Code} (hf:FnOk P f fn c) (h0:∀(b:Nat) (w:World),w.cell? ⟨b,0,none⟩=some (.pointer none)→w.shape? b=some (bT,2)→w.frozen? ⟨b,0,none⟩=false→Calls P f #[.pointer (some ⟨b,0,none⟩)] w fun e w'=>e= .returned (.tuple #[])∧w'=w.setCell ⟨b,0,none⟩ (.pointer (some ⟨b,0,none⟩))) (h1:∀(b:Nat) (w:World),w.cell? ⟨b,0,none⟩=some (.pointer (some ⟨b,0,none⟩))→Calls P f #[.pointer (some ⟨b,0,none⟩)] w fun e w'=>e= .returned (.tuple #[])∧w'=w) (he:E.eff f=true):ZOk E P (f,ccZ bT):=by
 intro args H p H' h;simp only[ccZ]at h;split at h
 ·rename_i id es ix off;split at h
  ·rename_i hq;simp only[Bool.and_eq_true]at hq;obtain rfl:=Nat.eq_of_beq_eq_true hq.1;obtain rfl:=Nat.eq_of_beq_eq_true hq.2.1;obtain rfl:=Nat.eq_of_beq_eq_true hq.2.2;split at h
   ·rename_i T cs hb;rw[Zm]at hb;split at h
    ·rename_i x v;split at h
     ·rename_i hT;obtain rfl:=Nat.eq_of_beq_eq_true hT;refine⟨fun g w vals hi hg hv=>?_,fun hh=>by rw[he]at hh;cases hh⟩;obtain⟨v0,rfl,e0⟩:=ZeG hv;obtain⟨b,hσ,rfl⟩:=e0.ptr_inv;obtain⟨b',c,z1,z2,z3,z4,z5⟩:=hi.sp _ _ _ hb;rw[hσ]at z1;cases z1;obtain⟨c0,c1,rfl⟩:=Zl5 z3;(have y0:V g x c0:=by obtain⟨u,hu,hx⟩:=z4 0 (by simp);simp at hu hx;rw[hu];exact hx);(have y1:V g v c1:=by obtain⟨u,hu,hx⟩:=z4 1 (by simp);simp at hu hx;rw[hu];exact hx);(have hc0:w.cell? ⟨b,0,none⟩=some c0:=by rw[ZmI w b 0 _ _ _ z2];rfl);rw[Zv hf];simp only[Nat.zero_mul,Nat.zero_add];cases x with
      | nilp=>
       simp only at h;split at h
       ·rename_i hro;cases h;obtain rfl:=y0.nilp_inv;refine Calls.mono (h0 b w hc0 (by simp[World.shape?,z2]) (by simp[World.frozen?,z2])) fun e w' ⟨h1,h2⟩=>?_;subst h2;have hat:=ZgC w b (.pointer (some ⟨b,0,none⟩)) _ _ _ _ z2;obtain⟨j1, j2⟩ := Uc hi (Nat.le_of_ble_eq_true hro) hb trivial hσ z5 (fun k hk => Uo w b k _ 0 hk) (by simp[World.setCell]) hat (fun a => by
          by_cases ea:a.block=b
          · simp only[World.frozen?,ea,hat,z2]
          · simp only[World.frozen?,Uo w b a.block _ 0 ea]) (bo:= .sp T [.ptr id 2 0 0,v]) (fun es el h=>by cases h) (fun es h=>by cases h) (fun c2 T2 m2 h=>by
          cases h
          have h2:=hi.rm id b _ _ _ ⟨_,hb,trivial⟩ hσ z2
          simpa using h2) .rfls (fun T2 cs2 h=>by
          cases h
          refine⟨_,rfl,rfl,fun j hj=>?_⟩
          match j,hj with
          | 0,_=>exact⟨_,rfl,by have:=V.ptr (g:=g) id 2 0 0 b hσ;simpa using this⟩
          | 1,_=>exact⟨_,rfl,y1⟩)
        exact⟨_,h1,g,.tup _ _ rfl (fun i hi=>absurd hi (by simp)),j1,j2⟩
       {cases h}
      | ptr i es' ix' off'=>simp only at h;split at h;{rename_i hq;simp only[Bool.and_eq_true]at hq;obtain rfl:=Nat.eq_of_beq_eq_true hq.1;obtain rfl:=Nat.eq_of_beq_eq_true hq.2.1;obtain rfl:=Nat.eq_of_beq_eq_true hq.2.2.1;obtain rfl:=Nat.eq_of_beq_eq_true hq.2.2.2;cases h;obtain⟨b2,hσ2,rfl⟩:=y0.ptr_inv;rw[hσ]at hσ2;cases hσ2;refine Calls.mono (h1 b w (by simpa using hc0)) fun e w' ⟨h1,h2⟩=>?_;subst h2;exact⟨_,h1,g,.tup _ _ rfl (fun i hi=>absurd hi (by simp)),hi,KeepN.refl _ _ _ _⟩};{cases h}
      | _=>simp at h
     {cases h}
    {cases h}
   {cases h}
  {cases h}
 {cases h}
theorem Zaj:∀{el:List (List PV)} {l:List UInt8},WS el=some l→el=Zo l
 | [],l,h=>by simp[WS]at h;subst h;rfl
 |c::r,l,h=>by simp only[WS]at h;split at h;{rename_i n;split at h;{rename_i hn;simp only[Bool.and_eq_true,decide_eq_true_eq]at hn;split at h;{rename_i l' hl;cases h;have:=Zem hn.1 hn.2;rw[Zaj hl,Zo,Zo,List.map_cons];congr 2;rw[show Int.ofNat (n.toNat.toUInt8).toNat=n from this]};{cases h}};{cases h}};{cases h}
noncomputable def ZgN (bT:TypeId):ZF:=fun args H=>match args with
 | [.ptr id es ix off] => match Nat.beq es 2 && (Nat.beq ix 0 && Nat.beq off 0) with
   | true => match nth H.bx id with
     | some (.sp T cs) => match cs with
       | [_, v] => match Nat.beq T bT with
         | true => match v with
           | .nils=>some (.str [],H)
           | .sl (.tok k) es' el => match Nat.beq es' 1, X5 k H.live, WS el with
             | true, some l, some bs => match Nat.blt 0 bs.length && Nat.ble bs.length 1000000 with
               | true=>some (.str bs,{H with live:=l})
               | false=>none
             | _,_,_=>none
           | _=>none
         | false=>none
       | _=>none
     | _=>none
   | false=>none
 |_=>none
theorem ZdW (w:World) (b o n k:Nat) (h:k≠b):(w.freeze ⟨b,o,none⟩ n).heap[k]? = w.heap[k]? :=by unfold World.freeze;split;{rfl};{simp only[Array.getElem?_modify];rw[if_neg (Ne.symm h)]}
theorem ZeZ (w:World) (b o n q:Nat) (c:Array Value) (T:TypeId) (fr:Nat×Nat) (h:w.heap[b]? = some (.cells c T fr)):(w.freeze ⟨b,o,none⟩ n).cell? ⟨b,q,none⟩=w.cell? ⟨b,q,none⟩:=by unfold World.freeze;split;{rfl};{simp[World.cell?,Array.getElem?_modify,h]}
theorem ZeT (w:World) (a:Addr) (n:Nat):(w.freeze a n).heap.size=w.heap.size:=by unfold World.freeze;split;{rfl};{simp}
theorem ZiL (g:Gh) (w:World) (a:Addr) (n:Nat):SameOut g w (w.drew.freeze a n):=by unfold World.freeze;split<;>exact .rfls
theorem Zm7 {c:Code} (hf:FnOk P f fn c) (h0:∀(b:Nat) (p:Value) (w:World),w.heap[b]? = some (.cells #[p,.slice none 0 0] bT (0,0))→Calls P f #[.pointer (some ⟨b,0,none⟩)] w fun e w'=>e= .returned (.string ⟨#[]⟩)∧w'=w.drew) (h1:∀(b:Nat) (p:Value) (bb o cap:Nat) (cur:Array Value) (l:List UInt8) (w:World),w.heap[b]? = some (.cells #[p,.slice (some ⟨bb,o,none⟩) l.length cap] bT (0,0))→w.heap[bb]? = some (.cells cur 5 (0,0))→l≠ []→l.length≤cap→o+cap≤cur.size→l.length≤1000000→(∀j x,l[j]? = some x→w.cell? ⟨bb,o+j,none⟩=some (.int .u8 x.toNat))→Calls P f #[.pointer (some ⟨b,0,none⟩)] w fun e w'=>e= .returned (.string ⟨l.toArray⟩)∧w'=w.drew.freeze ⟨bb,o,none⟩ l.length) (he:E.eff f=true):ZOk E P (f,ZgN bT):=by
 intro args H p H' h;simp only[ZgN]at h;split at h
 ·rename_i id es ix off;split at h
  ·rename_i hq;simp only[Bool.and_eq_true]at hq;obtain rfl:=Nat.eq_of_beq_eq_true hq.1;obtain rfl:=Nat.eq_of_beq_eq_true hq.2.1;obtain rfl:=Nat.eq_of_beq_eq_true hq.2.2;split at h
   ·rename_i T cs hb;rw[Zm]at hb;split at h
    ·rename_i x v;split at h
     ·rename_i hT;obtain rfl:=Nat.eq_of_beq_eq_true hT;refine⟨fun g w vals hi hg hv=>?_,fun hh=>by rw[he]at hh;cases hh⟩;obtain⟨v0,rfl,e0⟩:=ZeG hv;obtain⟨b,hσ,rfl⟩:=e0.ptr_inv;obtain⟨b',c,z1,z2,z3,z4,z5⟩:=hi.sp _ _ _ hb;rw[hσ]at z1;cases z1;obtain⟨c0,c1,rfl⟩:=Zl5 z3;(have y1:V g v c1:=by obtain⟨u,hu,hx⟩:=z4 1 (by simp);simp at hu hx;rw[hu];exact hx);rw[Zv hf];simp only[Nat.zero_mul,Nat.zero_add];cases v with
      | nils=>simp only at h;cases h;obtain rfl:=y1.nils_inv;refine Calls.mono (h0 b _ w z2) fun e w' ⟨h1,h2⟩=>?_;subst h2;exact⟨_,h1,g,.pure _ _ (.str _ _ rfl),hi.same rfl,KeepN.same rfl⟩
      | sl tl es' el=>
       cases tl with
       | tok k=>
        simp only at h;split at h
        ·rename_i l bs hes hl hbs;split at h
         ·rename_i hle;simp only[Bool.and_eq_true]at hle;cases h;obtain rfl:=Nat.eq_of_beq_eq_true hes;have hel:=Zaj hbs;have hpos:0<bs.length:=Nat.le_of_ble_eq_true hle.1;have hmax:=Nat.le_of_ble_eq_true hle.2;(have hlen:el.length=bs.length:=by rw[hel];simp[Zo]);obtain⟨hk,hsub,hne⟩:=WJ hl;obtain⟨bb,o,cap,vv,a,rfl,hcap,hw,hS,hV,⟨T2,hT2,hroom⟩,ha⟩:=y1.sl_inv;have ha:=ha (.inl (by omega));subst ha;(have hτ:g.τ k=some (bb,o+el.length*1,(o+cap*1,T2)):=by rcases hroom with⟨h,_⟩|h;{omega};{exact h});obtain⟨⟨cur,T3,q1,q2⟩,q3,q4⟩:=hi.tk k _ _ _ hk hτ;have h5:T2=5:=by
           rw[hel]at hT2;obtain⟨y,r,rfl⟩:∃y r,bs=y::r:=by
            cases bs with
            | nil=>simp at hpos
            | cons y r=>exact⟨y,r,rfl⟩
           simp only[Zo,List.map_cons,Zbg,List.all_cons,Bool.and_eq_true,Zg4]at hT2;exact Nat.eq_of_beq_eq_true hT2.1
          have q2b:T3=5:=q2.2.trans h5;subst q2b;(have hcell:∀j x,bs[j]? = some x→w.cell? ⟨bb,o+j,none⟩=some (.int .u8 x.toNat):=fun j x hj=>by have hjl:j<bs.length:=Zz hj;(have hje:j<el.length:=by omega);have s1:=hS j 0 hje (by omega);(have ej:el[j]= [.int .u8 (Int.ofNat x.toNat)]:=by(have:el[j]? = some [.int .u8 (Int.ofNat x.toNat)]:=by rw[hel,Zo,List.getElem?_map,hj];rfl);rw[List.getElem?_eq_getElem hje]at this;simpa using this);have s2:=hV j hje 0 (by rw[ej];simp);(have e:(el[j])[0]'(by rw[ej];simp)= .int .u8 (Int.ofNat x.toNat):=by simp[ej]);rw[e]at s2;(have s3:vv j 0= .int .u8 (Int.ofNat x.toNat):=by revert s2;generalize vv j 0=u;intro s2;cases s2;rfl);rw[s3]at s1;have:=hi.st _ _ _ s1;simpa using this);have q2a:=q2.1;simp only[Nat.mul_one]at q2a;rw[hlen]at z2;have hne0:bs≠ []:=List.length_pos_iff.1 hpos;refine Calls.mono (h1 b _ bb o cap cur bs w z2 q1 hne0 (by omega) q2a hmax hcell) fun e w' ⟨h1,h2⟩=>?_;subst h2;have qd:w.drew.heap[bb]? = some (.cells cur 5 (0,0)):=q1;obtain⟨j1,j2⟩:=Zkh (w':=w.drew.freeze ⟨bb,o,none⟩ bs.length) hi hk hτ hsub (hne hi.nd) (fun b2 hb2=>ZdW w.drew bb o _ b2 hb2) (fun q=>ZeZ w.drew bb o _ q _ _ _ qd) (ZeT _ _ _) (ZiL _ _ _ _);exact⟨_,h1,g,.pure _ _ (.str _ _ rfl),j1,j2⟩
         {cases h}
        {cases h}
       | _=>simp at h
      | _=>simp at h
     {cases h}
    {cases h}
   {cases h}
  {cases h}
 {cases h}
end
def ZeQ (c:Int):Bool:=(decide (97≤c)&&decide (c≤122))||(decide (65≤c)&&decide (c≤90))
def ZmO (c:Int):Bool:=decide (48≤c)&&decide (c≤57)
def Zcr (c:Int):Bool:=ZeQ c||(ZmO c||(decide (c=95)||decide (c=35)))
def Yx (c:UInt8):Bool:=Zcr (Int.ofNat c.toNat)
def YA (s:List UInt8):Bool:=match s with
 | []=>false
 |c::_=>decide (s.length≤24)&&(ZeQ (Int.ofNat c.toNat)&&s.all Yx)
def Xj (k:Int) (nm:List UInt8) (s:Int) (n:Nat):Int:=
 if ¬ (k=1∨k=2∨k=3)∨s<0∨5<s∨(k=3∧s≠0)∨(k≠3∧0<n) then 1 else if YA nm=false then 2 else if 8<n then 3 else 0
mutual
def Tm.nodes:Tm→Int
 | .mk k nm s _ kz=>if Xj k nm s kz.length≠0 then Xj k nm s kz.length else Yk kz
def Yk:List Tm→Int
 | []=>0
 |t::r=>if t.nodes≠0 then t.nodes else Yk r
end
mutual
def Tm.depth:Tm→Nat
 | .mk _ _ _ _ kz=>Yv kz+1
def Yv:List Tm→Nat
 | []=>0
 |t::r=>max t.depth (Yv r)
end
def Tm.valid (t:Tm):Int:=if t.nodes≠0 then t.nodes else if 400<t.size∨40<t.depth then 3 else 0
mutual
def Tm.check:Tm→Int→Int→Int→Int×Int×Int
 | .mk k nm s _ kz,lvl,n,d=>if Xj k nm s kz.length≠0 then(Xj k nm s kz.length,n+1,if d<lvl then lvl else d) else Xk kz (lvl+1) (n+1) (if d<lvl then lvl else d)
def Xk:List Tm→Int→Int→Int→Int×Int×Int
 | [],_,n,d=>(0,n,d)
 |t::r,lvl,n,d=>if(t.check lvl n d).1≠0 then t.check lvl n d else Xk r lvl (t.check lvl n d).2.1 (t.check lvl n d).2.2
end
mutual
theorem Tm.check_eq:∀(t:Tm) (lvl n d:Int),(t.check lvl n d).1=t.nodes∧(t.nodes=0→0≤lvl→(t.check lvl n d).2=(n+(t.size:Int),max d (lvl+(t.depth:Int)-1)))
 | .mk k nm s b kz,lvl,n,d=>by simp only[Tm.check,Tm.nodes,Tm.size,Tm.depth];split;{rename_i h;exact⟨rfl,fun h'=>absurd h' h⟩};{obtain⟨h1,h2⟩:=ZdT kz (lvl+1) (n+1) (if d<lvl then lvl else d);refine⟨h1,fun h3 h4=>?_⟩;rw[h2 h3 (by omega)];refine Prod.ext_iff.2 ⟨?_,?_⟩;{simp;omega};{simp only[];split;{split<;>omega};{split<;>omega}}}
theorem ZdT:∀(l:List Tm) (lvl n d:Int),(Xk l lvl n d).1=Yk l∧(Yk l=0→0≤lvl→(Xk l lvl n d).2=(n+(Zk l:Int),if Yv l=0 then d else max d (lvl+(Yv l:Int)-1)))
 | [],lvl,n,d=>by simp[Xk,Yk,Zk,Yv]
 |t::r,lvl,n,d=>by
  obtain⟨h1,h2⟩:=Tm.check_eq t lvl n d;have hD:Yv (t::r)=max t.depth (Yv r):=by simp only[Yv]
  simp only[Xk,Yk,Zk,h1];generalize Yv (t::r)=D at hD ⊢;split;{rename_i h;exact⟨h1,fun h'=>absurd h' h⟩};{rename_i h;(have h0:t.nodes=0:=by simpa using h);obtain⟨h3,h4⟩:=ZdT r lvl (t.check lvl n d).2.1 (t.check lvl n d).2.2;refine⟨h3,fun h5 h6=>?_⟩;rw[h4 h5 h6,h2 h0 h6];(have hp:1≤t.depth:=by cases t;simp[Tm.depth]);refine Prod.ext_iff.2 ⟨?_,?_⟩;{simp;omega};{simp only[];split<;>split<;>omega}}
end
theorem Tm.valid_check (t:Tm):t.valid=(if(t.check 1 0 0).1≠0 then(t.check 1 0 0).1 else if 400<(t.check 1 0 0).2.1∨40<(t.check 1 0 0).2.2 then 3 else 0):=by obtain⟨h1,h2⟩:=t.check_eq 1 0 0;rw[h1];unfold Tm.valid;split;{rfl};{rename_i h;rw[h2 (by simpa using h) (by omega)];congr 1;apply propext;simp only[];omega}
mutual
theorem Tm.depth_le:∀t:Tm,t.depth≤t.size
 | .mk _ _ _ _ kz=>by have:=Zas kz;simp only[Tm.depth,Tm.size];omega
theorem Zas:∀l:List Tm,Yv l≤Zk l
 | []=>by simp[Yv]
 |t::r=>by have:=t.depth_le;have:=Zas r;simp only[Yv,Zk];omega
end
theorem ZeC:∀{i:Nat} {t:Tm},l[i]? = some t→Yv (l.take (i+1))=max (Yv (l.take i)) t.depth:=by
 induction l with
 |nil=>intro i t h;simp at h
 |cons a r ih=>
  intro i t h;cases i with
  | zero=>simp at h;subst h;simp[Yv]
  | succ i=>simp at h;simp only[List.take_succ_cons,Yv,ih h];omega
mutual
theorem Tm.check_range:∀(t:Tm) (lvl n d:Int),n≤(t.check lvl n d).2.1∧(t.check lvl n d).2.1≤n+(t.size:Int)∧d≤(t.check lvl n d).2.2∧(t.check lvl n d).2.2≤max d (lvl+(t.size:Int))
 | .mk k nm s b kz,lvl,n,d=>by simp only[Tm.check,Tm.size];split;{simp only[];split<;>omega};{have:=Qk kz (lvl+1) (n+1) (if d<lvl then lvl else d);split at this<;>split<;>omega}
theorem Qk:∀(l:List Tm) (lvl n d:Int),n≤(Xk l lvl n d).2.1∧(Xk l lvl n d).2.1≤n+(Zk l:Int)∧d≤(Xk l lvl n d).2.2∧(Xk l lvl n d).2.2≤max d (lvl+(Zk l:Int))
 | [],lvl,n,d=>by simp[Xk,Zk];omega
 |t::r,lvl,n,d=>by have h1:=t.check_range lvl n d;simp only[Xk,Zk];split;{omega};{have h2:=Qk r lvl (t.check lvl n d).2.1 (t.check lvl n d).2.2;omega}
end
structure Sym where
 name:List UInt8
 least:Int
 most:Int
 kind:Int
def Sym.cells (s:Sym):List PV:=[.str s.name,.int .i64 s.least,.int .i64 s.most,.int .i64 s.kind]
def Sym.zero:Sym:=⟨[],0,0,0⟩
def ZaM:List Sym:=[
 ⟨[112,97,105,114],2,2,1⟩,⟨[101,110,99],2,2,1⟩,⟨[97,101,110,99],2,2,1⟩,⟨[112,107],1,1,1⟩,⟨[115,105,103,110],2,2,1⟩,⟨[104,97,115,104],1,1,1⟩,
 ⟨[120,111,114],2,8,1⟩,⟨[122,101,114,111],0,0,1⟩,⟨[101,120,112],2,2,1⟩,⟨[109,117,108],2,8,1⟩,⟨[105,110,118],1,1,1⟩,⟨[111,110,101],0,0,1⟩,
 ⟨[115,107],1,1,2⟩,⟨[115,104,107],2,2,2⟩,⟨[110,101,119],1,8,2⟩,
 ⟨[102,115,116],1,1,3⟩,⟨[115,110,100],1,1,3⟩,⟨[100,101,99],2,2,3⟩,⟨[97,100,101,99],2,2,3⟩,⟨[111,112,101,110],2,2,3⟩,⟨[114,101,97,100],1,1,3⟩]
def ZbC (l:List Sym):List (List PV):=l.map Sym.cells
theorem Ur (l:List Sym):(ZbC l).length=l.length:=by simp[ZbC]
theorem Zb2 {l:List Sym} {s:Sym} (h:l[i]? = some s):(ZbC l)[i]? = some s.cells:=by simp[ZbC,h]
def WX (nm:List UInt8):List Sym→Option Sym
 | []=>none
 |s::r=>if(s.name==nm)=true then some s else WX nm r
def YQ (nm:List UInt8):Sym:=(WX nm ZaM).getD .zero
def Qy (nm:List UInt8) (kz:List Tm):Bool:=if nm= [110,101,119] then(match kz with| .mk k _ _ _ _::_=>decide (k=2)| []=>false) else kz.all fun t=>match t with| .mk k _ s _ _=> !(decide (k=3))&&decide (s=1)
mutual
def Tm.th:Tm→Int
 | .mk k nm _ _ kz=>if k≠3 then 0 else if(YQ nm).kind=0 then 10 else if(kz.length:Int)<(YQ nm).least∨(YQ nm).most<(kz.length:Int) then 6 else if(YQ nm).kind=2∧Qy nm kz=false then 10 else thL kz
def thL:List Tm→Int
 | []=>0
 |t::r=>if t.th≠0 then t.th else thL r
end
theorem Zde {nm:List UInt8}:∀{l:List Sym} {s:Sym},WX nm l=some s→s∈l∧s.name=nm
 |a::r,s,h=>by simp only[WX]at h;split at h;{rename_i e;cases h;exact⟨List.mem_cons_self,by simpa using e⟩};{obtain⟨h1,h2⟩:=Zde h;exact⟨List.mem_cons_of_mem _ h1,h2⟩}
theorem Zaq (nm:List UInt8):YQ nm= .zero∨(YQ nm∈ZaM∧(YQ nm).name=nm):=by
 unfold YQ;cases h:WX nm ZaM with
 |none=>exact .inl rfl
 |some s=>exact .inr (Zde h)
theorem Zhr {nm:List UInt8}:(YQ nm).kind=2↔nm= [115,107]∨nm= [115,104,107]∨nm= [110,101,119]:=by constructor;{intro h;rcases Zaq nm with e|⟨e1,e2⟩;{rw[e]at h;simp[Sym.zero]at h};{rw[← e2];revert h;generalize YQ nm=s at e1;simp only[ZaM,List.mem_cons,List.not_mem_nil,or_false]at e1;rcases e1 with rfl|rfl|rfl|rfl|rfl|rfl|rfl|rfl|rfl|rfl|rfl|rfl|rfl|rfl|rfl|rfl|rfl|rfl|rfl|rfl|rfl<;>simp}};{rintro(rfl|rfl|rfl)<;>rfl}
variable {P:Program}
theorem XN (w:World) (dT sT ty elem:TypeId) (sz:Nat) (b o dLen dCap:Nat) (a:Addr) (sLen sCap:Nat) (cs:List Value) (hu:P.underlying dT=some (.slice elem)) (hs:(P.info? elem).map (·.size)=some sz) (hn:cs.length=Nat.min sLen dLen*sz) (hsrc:∀j v,cs[j]? = some v→w.cell? (a.add j)=some v) (hc:∀j,j<cs.length→(w.cell? ⟨b,o+j,none⟩).isSome=true) (hf:∀j,j<cs.length→w.frozen? ⟨b,o+j,none⟩=false) (h1:∀v∈cs,v.oneCell'=true):(Builtin.copy_ #[dT,sT] ty #[.slice (some ⟨b,o,none⟩) dLen dCap,.slice (some a) sLen sCap]).run P w= .ok (goInt (Nat.min sLen dLen)) (w.setCells b o cs):=by
 have hl:=run_loadCells_list (P:=P) w a cs hsrc;have hst:=run_storeCells_cells (P:=P) b o cs 0 w (by simpa using hc) (by simpa using hf) h1;cases hq:P.info? elem with
 |none=>simp[hq]at hs
 |some i=>
  have hi:i.size=sz:=by simpa[hq] using hs
  rw[hn]at hl;simp[Builtin.copy_,run_underlying hu,Builtin.lenOf,Builtin.firstCells,sizeOf,typeInfo,hq,hi,hl,hst]
section
variable {g:Gh} {H:Heap} {w:World}
theorem V4 (b:Nat):∀(vs:List Value) (o:Nat) (w:World),(w.setCells b o vs).heap.size=w.heap.size
 | [],_,_=>rfl
 |v::r,o,w=>by rw[World.setCells,V4 b r];simp[World.setCell]
theorem Y5 {b:Nat} {c:Array Value} {T:TypeId} {fr:Nat×Nat} (h:w.heap[b]? = some (.cells c T fr)) (vs:List Value) (o:Nat) (hsz:o+vs.length≤c.size):∃c',(w.setCells b o vs).heap[b]? = some (.cells c' T fr)∧c'.size=c.size∧(∀j (hj:j<vs.length),c'[o+j]? = some vs[j])∧(∀j,j<o∨o+vs.length≤j→c'[j]? = c[j]?)∧(∀k,k≠b→(w.setCells b o vs).heap[k]? = w.heap[k]?)∧(w.setCells b o vs).heap.size=w.heap.size∧((w.setCells b o vs).os=w.os∧(w.setCells b o vs).output=w.output)∧∀a,(w.setCells b o vs).frozen? a=w.frozen? a:=by
 have hk:=World.keptBut_setCells b (may:=fun p=>∃j,j<vs.length∧p= .cell b (o+j)) vs o w (fun j hj=>⟨j,hj,rfl⟩);have hb:b<w.heap.size:=by rcases Nat.lt_or_ge b w.heap.size with h'|h';{exact h'};{simp[Array.getElem?_eq_none h']at h}
 have hs:=V4 b vs o w;have hcell:∀j,w.cell? ⟨b,j,none⟩=c[j]? :=fun j=>by simp[World.cell?,h]
 have hin:=World.cell?_setCells_in b vs o w (fun j hj=>by rw[hcell,Array.getElem?_eq_getElem (by omega)];rfl);have h1:=hk.2.2 b hb;rw[h]at h1;cases h2:(w.setCells b o vs).heap[b]? with
 |none=>rw[h2]at h1;exact absurd h1 (by simp)
 |some ob=>
  rw[h2]at h1;cases ob with
  | cells c' T' fr'=>
   obtain⟨rfl,rfl,h3,h4⟩:=h1;refine⟨c',rfl,h3,fun j hj=>?_,fun j hj=>h4 j ?_,fun k hne=>?_,hs,⟨hk.1,hk.2.1⟩,World.frozen?_setCells b vs o w⟩;{have:=hin j hj;simpa[World.cell?,h2] using this};{rintro⟨i,hi,e⟩;simp only[MemPlace.cell.injEq,true_and]at e;omega}
   ·rcases Nat.lt_or_ge k w.heap.size with hlt|hge
    ·have h5:=hk.2.2 k hlt;rw[Array.getElem?_eq_getElem hlt]at h5 ⊢;rw[Array.getElem?_eq_getElem (by omega)]at h5 ⊢;generalize w.heap[k]=x at h5;generalize (w.setCells b o vs).heap[k]'(by omega)=y at h5;cases x with
     | cells cx tx fx=>
      cases y with
      | cells cy ty fy=>obtain⟨rfl,rfl,h6,h7⟩:=h5;have:cy=cx:=Array.ext_getElem? fun j=>h7 j (by rintro⟨i,_,e⟩;simp only[MemPlace.cell.injEq]at e;exact hne e.1);rw[this]
      | _=>simp at h5
     | map es cl=>
      cases y with
      | map es' cl'=>simp only at h5;rcases h5 with⟨i,_,e⟩|⟨rfl,rfl⟩;{cases e};{rfl}
      | _=>simp at h5
     | _=>cases y<;>simp_all
    {rw[Array.getElem?_eq_none hge,Array.getElem?_eq_none (by omega)]}
  | _=>simp at h1
theorem ZhU {id:Nat} (hro:H.ro≤id) (w:World):Keep g H w g (ZQ [id] H) w where
 le:= .refl g
 heap _ _ _:=rfl
 store _ _ _ _:=rfl
 size:=Nat.le_refl _
 new id b h h':=by rw[h]at h';cases h'
 tnew t b lo hi h h':=by rw[h]at h';cases h'
 ro:=rfl
 bxl:=by simp[ZQ,Yr]
 bx i h:=by
  rw[Wt,if_neg]
  rintro⟨h1,_⟩
  simp only[List.mem_singleton]at h1
  omega
 nt:=Nat.le_refl _
 lv t h:= .inl h
 al _ _ _ h:=(YM h).1
 ns _ _ h:=h
 so:= .rfls
theorem ZgG (hi:Inv g H w) {w':World} {id:Nat} (hro:H.ro≤id) {F:Array Value} {T:TypeId} (hh:w'.heap=(w.alloc (.cells F T)).heap) (hso:SameOut g w w') (hw:∀i (hi:i<el.length),(el[i]).length=es) (hle:el.length*es≤F.size) (hv:∀i (hi:i<el.length) j (hj:j<(el[i]).length),∃v,F[i*es+j]? = some v∧V g ((el[i])[j]) v) (K:Nat) (hK:K≤F.size):Inv (g.link H.bx.length w.heap.size K) {H with bx:=H.bx.set id .dead++ [.cells es el]} w'∧Keep g H w (g.link H.bx.length w.heap.size K) {H with bx:=H.bx.set id .dead++ [.cells es el]} w':=by
 have hl:(ZQ [id] H).bx.length=H.bx.length:=by simp[ZQ,Yr]
 obtain⟨i1,k1⟩:=Vv (Zge hi [id]) (.cells F T) (.cells es el) rfl (fun es0 el0 h0=>by cases h0;exact⟨F,T,rfl,hw,hle,hv⟩) (fun es h=>by cases h) K (fun c T m h=>by cases h;exact hK);rw[hl]at i1 k1;have k2:Keep (g.link H.bx.length w.heap.size K) ((ZQ [id] H).push (.cells es el)) (w.alloc (.cells F T)) (g.link H.bx.length w.heap.size K) ((ZQ [id] H).push (.cells es el)) w':= .same hh hso;have k3:=(ZhU hro w).then hi k1;exact⟨i1.same hh,KeepN.then k3 hi k2⟩
end
def WE (a b:Int):Int:=if a<b then -1 else if b<a then 1 else 0
def Qt (a b:List UInt8):Int:=if Op.bytesLess a b=true then -1 else if a=b then 0 else 1
def thn (a b:Int):Int:=if a≠0 then a else b
mutual
def Tm.cmp:Tm→Tm→Int
 | .mk k nm s _ l,.mk k' nm' s' _ l'=>thn (WE ((1+Zk l:Nat):Int) ((1+Zk l':Nat):Int)) (thn (WE k k') (thn (Qt nm nm') (thn (WE s s') (thn (WE (l.length:Int) (l'.length:Int)) (VK l l')))))
def VK:List Tm→List Tm→Int
 | [],_=>0
 | a :: r, l' => match l' with
   | []=>0
   | b::r'=>thn (a.cmp b) (VK r r')
end
structure CmpOn {α:Type} (S:α→Prop) (c:α→α→Int):Prop where
 anti:∀a b,S a→S b→c b a= - c a b
 tr:∀a b d,S a→S b→S d→c a b≤0→c b d≤0→c a d≤0
section
variable {α:Type} {S:α→Prop} {c:α→α→Int}
theorem CmpOn.strict1 (h:CmpOn S c) {a b d:α} (ha:S a) (hb:S b) (hd:S d) (h1:c a b<0) (h2:c b d≤0):c a d<0:=by have h3:=h.tr a b d ha hb hd (by omega) h2;rcases Int.lt_or_eq_of_le h3 with h4|h4;{exact h4};{exfalso;have h5:=h.anti a d ha hd;have h6:=h.tr b d a hb hd ha h2 (by omega);have h7:=h.anti a b ha hb;omega}
theorem CmpOn.strict2 (h:CmpOn S c) {a b d:α} (ha:S a) (hb:S b) (hd:S d) (h1:c a b≤0) (h2:c b d<0):c a d<0:=by have h3:=h.tr a b d ha hb hd h1 (by omega);rcases Int.lt_or_eq_of_le h3 with h4|h4;{exact h4};{exfalso;have h5:=h.anti a d ha hd;have h6:=h.tr d a b hd ha hb (by omega) h1;have h7:=h.anti b d hb hd;omega}
theorem CmpOn.then_le (h:CmpOn S c) {a b d:α} (ha:S a) (hb:S b) (hd:S d) {x y z:Int} (hz:x≤0→y≤0→z≤0) (h1:thn (c a b) x≤0) (h2:thn (c b d) y≤0):thn (c a d) z≤0:=by
 unfold thn at *;by_cases e1:c a b=0;{rw[if_neg (by simpa using e1)]at h1;by_cases e2:c b d=0;{rw[if_neg (by simpa using e2)]at h2;have h3:=h.tr a b d ha hb hd (by omega) (by omega);split;{exact h3};{exact hz h1 h2}};{rw[if_pos e2]at h2;have:=h.strict2 ha hb hd (by omega) (show c b d<0 by omega);rw[if_pos (by omega)];omega}}
 ·rw[if_pos e1]at h1;have h2':c b d≤0:=by by_cases e2:c b d=0;{omega};{rw[if_pos e2]at h2;exact h2}
  have:=h.strict1 ha hb hd (show c a b<0 by omega) h2';rw[if_pos (by omega)];omega
theorem Qf {a b a' b':Int} (h:a'= - a) (h':b'= - b):thn a' b'= - thn a b:=by subst h h';unfold thn;by_cases e:a=0;{simp[e]};{rw[if_pos e,if_pos (by omega)]}
end
theorem cmpI_on:CmpOn (fun _=>True) WE:=⟨fun a b _ _=>by simp only[WE];split<;>split<;>(try split)<;>omega,fun a b d _ _ _=>by simp only[WE];split<;>split<;>(try split)<;>(try split)<;>(try split)<;>omega⟩
theorem Vu:∀a b:List UInt8,Op.bytesLess a b=true→Op.bytesLess b a=false
 | [],[]=>by simp[Op.bytesLess]
 | [],_::_=>by simp[Op.bytesLess]
 |_::_,[]=>by simp[Op.bytesLess]
 |x::a,y::b=>by have ih:=Vu a b;simp only[Op.bytesLess];by_cases h1:x<y;{(have h2:¬ y<x:=by simp only[UInt8.lt_iff_toNat_lt]at *;omega);(have h3:¬ y=x:=by intro e;subst e;simp only[UInt8.lt_iff_toNat_lt]at *;omega);simp[h1,h2,h3]};{by_cases h2:x=y;{subst h2;simpa using ih};{simp[h1,h2]}}
theorem Vr:∀a b:List UInt8,Op.bytesLess a b=false→a≠b→Op.bytesLess b a=true
 | [],[]=>by simp
 | [],_::_=>by simp[Op.bytesLess]
 |_::_,[]=>by simp[Op.bytesLess]
 |x::a,y::b=>by have ih:=Vr a b;simp only[Op.bytesLess];intro h hne;by_cases h2:x=y;{subst h2;simp at h hne ⊢;exact ih h hne};{(have:¬ x<y:=by intro e;simp[e]at h);(have:y<x:=by have h3:x.toNat≠y.toNat:=fun e=>h2 (UInt8.toNat_inj.1 e);simp only[UInt8.lt_iff_toNat_lt]at *;omega);simp[this]}
theorem W6:∀a b c:List UInt8,Op.bytesLess a b=true→Op.bytesLess b c=true→Op.bytesLess a c=true
 | [],[],_=>by simp[Op.bytesLess]
 | [],_::_,[]=>by simp[Op.bytesLess]
 | [],_::_,_::_=>by simp[Op.bytesLess]
 |_::_,[],_=>by simp[Op.bytesLess]
 |_::_,_::_,[]=>by simp[Op.bytesLess]
 |x::a,y::b,z::c=>by have ih:=W6 a b c;simp only[Op.bytesLess,Bool.or_eq_true,Bool.and_eq_true,decide_eq_true_eq,beq_iff_eq];rintro(h1|⟨rfl,h1⟩) (h2|⟨rfl,h2⟩);{left;simp only[UInt8.lt_iff_toNat_lt]at *;omega};{exact .inl h1};{exact .inl h2};{exact .inr ⟨rfl,ih h1 h2⟩}
theorem cmpB_on:CmpOn (fun _=>True) Qt where
 anti a b _ _:=by
  simp only[Qt]
  by_cases h1:Op.bytesLess a b=true
  · have := Vu a b h1
    have hne:¬ b=a:=by intro e;subst e;rw[XF]at h1;cases h1
    simp[h1,this,hne]
  · simp only[Bool.not_eq_true]at h1
    by_cases e:a=b
    · subst e;simp[h1]
    · have := Vr a b h1 e
      simp[h1,e,this]
 tr a b d _ _ _:=by
  simp only[Qt]
  intro h1 h2
  by_cases e1:Op.bytesLess a b=true
  · by_cases e2 : Op.bytesLess b d = true
    · simp[W6 a b d e1 e2]
    · by_cases e3 : b = d
      · subst e3;simp[e1]
      · simp[e2,e3]at h2
  · by_cases e3 : a = b
    · subst e3;exact h2
    · simp[e1,e3]at h1
theorem WY:∀a b:List UInt8,Lib.compareBytes a b=Qt a b
 | [],[]=>by simp[Lib.compareBytes,Qt,Op.bytesLess]
 | [],_::_=>by simp[Lib.compareBytes,Qt,Op.bytesLess]
 |_::_,[]=>by simp[Lib.compareBytes,Qt,Op.bytesLess]
 | x :: a, y :: b => by
   have ih:=WY a b
   simp only[Lib.compareBytes,ih,Qt,Op.bytesLess]
   by_cases h1:x<y
   · simp[h1]
   · by_cases h2 : x = y
     · subst h2;simp[h1]
     · have : y < x := by
         have h3:x.toNat≠y.toNat:=fun e=>h2 (UInt8.toNat_inj.1 e)
         simp only[UInt8.lt_iff_toNat_lt]at *;omega
       simp[h1,h2,this]
theorem Zhs {N:Nat} (h:CmpOn (fun t:Tm=>t.size≤N) Tm.cmp):∀m:Nat,CmpOn (fun l:List Tm=>l.length=m∧∀t,t∈l→t.size≤N) VK
 |0=>⟨fun a b ha hb=>by
  obtain rfl:=List.length_eq_zero_iff.1 ha.1;obtain rfl:=List.length_eq_zero_iff.1 hb.1;simp[VK],fun a b d ha _ _ _ _=>by
  obtain rfl:=List.length_eq_zero_iff.1 ha.1;simp[VK]⟩
 |m+1=>by
  have ih:=Zhs h m;have split:∀l:List Tm,l.length=m+1∧(∀t,t∈l→t.size≤N)→∃a r,l=a::r∧a.size≤N∧r.length=m∧∀t,t∈r→t.size≤N:=fun l hl=>by
   cases l with
   | nil=>simp at hl
   | cons a r=>exact⟨a,r,rfl,hl.2 a List.mem_cons_self,by simpa using hl.1,fun t ht=>hl.2 t (List.mem_cons_of_mem _ ht)⟩
  refine⟨fun x y hx hy=>?_,fun x y z hx hy hz h1 h2=>?_⟩;{obtain⟨a,r,rfl,a1,a2⟩:=split x hx;obtain⟨b,s,rfl,b1,b2⟩:=split y hy;simp only[VK];exact Qf (h.anti a b a1 b1) (ih.anti r s a2 b2)};{obtain⟨a,r,rfl,a1,a2⟩:=split x hx;obtain⟨b,s,rfl,b1,b2⟩:=split y hy;obtain⟨d,u,rfl,d1,d2⟩:=split z hz;simp only[VK]at h1 h2 ⊢;exact h.then_le a1 b1 d1 (ih.tr r s u a2 b2 d2) h1 h2}
theorem Wj {a b:Int} (h:WE a b=0):a=b:=by simp only[WE]at h;split at h;{omega};{split at h<;>omega}
theorem VZ:∀N:Nat,CmpOn (fun t:Tm=>t.size≤N) Tm.cmp
 |0=>⟨fun a b ha _=>by have:=WQ a;omega,fun a b d ha _ _ _ _=>by have:=WQ a;omega⟩
 |N+1=>by
  have hL:=Zhs (VZ N);have kid:∀{k:Int} {nm:List UInt8} {s:Int} {b:Bool} {l:List Tm},(Tm.mk k nm s b l).size≤N+1→∀t,t∈l→t.size≤N:=fun h t ht=>by simp only[Tm.size]at h;have:=XH ht;omega
  refine⟨fun a b ha hb=>?_,fun a b d ha hb hd h1 h2=>?_⟩;{obtain⟨k,nm,s,n,l⟩:=a;obtain⟨k',nm',s',n',l'⟩:=b;simp only[Tm.cmp];refine Qf (cmpI_on.anti _ _ trivial trivial) (Qf (cmpI_on.anti _ _ trivial trivial) (Qf (cmpB_on.anti _ _ trivial trivial) (Qf (cmpI_on.anti _ _ trivial trivial) ?_)));by_cases e:l.length=l'.length;{exact Qf (cmpI_on.anti _ _ trivial trivial) ((hL l.length).anti l l' ⟨rfl,kid ha⟩ ⟨e.symm,kid hb⟩)};{have h1:=cmpI_on.anti (l.length:Int) (l'.length:Int) trivial trivial;have h2:WE (l.length:Int) (l'.length:Int)≠0:=fun h=>e (by have:=Wj h;omega);unfold thn;rw[if_pos h2,if_pos (by omega),h1]}};{obtain⟨k,nm,s,n,l⟩:=a;obtain⟨k',nm',s',n',l'⟩:=b;obtain⟨k2,nm2,s2,n2,l2⟩:=d;simp only[Tm.cmp]at h1 h2 ⊢;refine cmpI_on.then_le trivial trivial trivial (fun h1 h2=>cmpI_on.then_le trivial trivial trivial (fun h1 h2=>cmpB_on.then_le trivial trivial trivial (fun h1 h2=>cmpI_on.then_le trivial trivial trivial (fun h1 h2=>?_) h1 h2) h1 h2) h1 h2) h1 h2;by_cases e1:l.length=l'.length;{by_cases e2:l'.length=l2.length;{exact cmpI_on.then_le trivial trivial trivial ((hL l.length).tr l l' l2 ⟨rfl,kid ha⟩ ⟨e1.symm,kid hb⟩ ⟨(e1.trans e2).symm,kid hd⟩) h1 h2};{have h3:WE (l'.length:Int) (l2.length:Int)≠0:=fun h=>e2 (by have:=Wj h;omega);simp only[thn,if_pos h3]at h2;rw[e1];simp only[thn,if_pos h3];exact h2}};{have h3:WE (l.length:Int) (l'.length:Int)≠0:=fun h=>e1 (by have:=Wj h;omega);simp only[thn,if_pos h3]at h1;(have h4:WE (l'.length:Int) (l2.length:Int)≤0:=by by_cases e:WE (l'.length:Int) (l2.length:Int)=0;{omega};{simp only[thn,if_pos e]at h2;exact h2});have:=cmpI_on.strict1 (a:=(l.length:Int)) trivial trivial trivial (by omega) h4;simp only[thn];rw[if_pos (by omega)];omega}}
section
variable {T:TypeId→Option TI}
theorem Zba {x:TypeId} (h:Sh T x cs) {k:IntKind} (ht:T x=some ti) (hk:ti.tk= .int k):∃n,cs= [.int k n]∧(Lit.int k n).wf=true:=by
 cases h with
 |int h' hk' hn=>rw[ht]at h';cases h';rw[hk]at hk';cases hk';exact⟨_,rfl,hn⟩
 |bool h' hk'=>rw[ht]at h';cases h';rw[hk]at hk';cases hk'
 |str h' hk'=>rw[ht]at h';cases h';rw[hk]at hk';cases hk'
 |nils h' hk'=>rw[ht]at h';cases h';rw[hk]at hk';cases hk'
 |sl h' hk'=>rw[ht]at h';cases h';rw[hk]at hk';cases hk'
 |struct h' hk'=>rw[ht]at h';cases h';rw[hk]at hk';cases hk'
theorem ZlY {x:TypeId} (h:Sh T x cs) (ht:T x=some ti) (hk:ti.tk= .string):∃s,cs= [.str s]∧s.length≤maxLen:=by
 cases h with
 |int h' hk'=>rw[ht]at h';cases h';rw[hk]at hk';cases hk'
 |bool h' hk'=>rw[ht]at h';cases h';rw[hk]at hk';cases hk'
 |str h' hk' hs=>exact⟨_,rfl,hs⟩
 |nils h' hk'=>rw[ht]at h';cases h';rw[hk]at hk';cases hk'
 |sl h' hk'=>rw[ht]at h';cases h';rw[hk]at hk';cases hk'
 |struct h' hk'=>rw[ht]at h';cases h';rw[hk]at hk';cases hk'
theorem Zh3:∀(el:List (List PV)),(∀c,c∈el→∃t:Tm,c=t.cells∧t.Ok)→∃kz:List Tm,el=Za kz∧∀t,t∈kz→t.Ok
 | [],_=>⟨[],rfl,fun t h=>absurd h (by simp)⟩
 |c::r,h=>by obtain⟨t,ht,ho⟩:=h c List.mem_cons_self;obtain⟨kz,hk,hko⟩:=Zh3 r fun c hc=>h c (List.mem_cons_of_mem _ hc);refine⟨t::kz,by simp only[Za,ht,hk],fun u hu=>?_⟩;rcases List.mem_cons.1 hu with rfl|hu;{exact ho};{exact hko u hu}
theorem Z6 (es:Nat) (el:List (List PV)):slV false es el= .sl .none es el:=by
 cases el with
 |nil=>exact ZB es
 |cons c r=>exact Zp false es c r
theorem Zvp {α:Type} {l:List α} (h:l.length=4):∃a b c d,l= [a,b,c,d]:=by
 match l,h with
 | [a,b,c,d],_=>exact⟨a,b,c,d,rfl⟩
theorem ZsQ {i s l t:TypeId} {ii si li:TI} (hi:T i=some ii) (ki:ii.tk= .int .i64) (zi:ii.size=1) (hs:T s=some si) (ks:si.tk= .string) (zs:si.size=1) (hl:T l=some li) (kl:li.tk= .slice t) (zl:li.size=1) (ht:T t=some ti) (kt:ti.tk= .struct [(0,i),(1,s),(2,i),(3,l)]) (zt:ti.size=4) {x:TypeId} (h:Sh T x cs):(x=t→∃tm:Tm,cs=tm.cells∧tm.Ok)∧(x=l→∃b kz,cs= [slV b 4 (Za kz)]∧(∀k,k∈kz→k.Ok)∧kz.length≤maxLen):=by
 induction h with
 |bool h' hk'=>exact⟨fun e=>(by subst e;rw[ht]at h';cases h';rw[kt]at hk';cases hk'),fun e=>(by subst e;rw[hl]at h';cases h';rw[kl]at hk';cases hk')⟩
 |int h' hk'=>exact⟨fun e=>(by subst e;rw[ht]at h';cases h';rw[kt]at hk';cases hk'),fun e=>(by subst e;rw[hl]at h';cases h';rw[kl]at hk';cases hk')⟩
 |str h' hk'=>exact⟨fun e=>(by subst e;rw[ht]at h';cases h';rw[kt]at hk';cases hk'),fun e=>(by subst e;rw[hl]at h';cases h';rw[kl]at hk';cases hk')⟩
 |nils h' hk'=>exact⟨fun e=>(by subst e;rw[ht]at h';cases h';rw[kt]at hk';cases hk'),fun e=>⟨true,[],by rw[Za,Zi],fun k hk=>absurd hk (by simp),Nat.zero_le _⟩⟩
 | @sl x' ti' e' ei' el' h' hk' he hlen hel ih=>refine⟨fun e=>(by subst e;rw[ht]at h';cases h';rw[kt]at hk';cases hk'),fun e=>?_⟩;subst e;rw[hl]at h';cases h';rw[kl]at hk';cases hk';rw[ht]at he;cases he;obtain⟨kz,hk,hok⟩:=Zh3 el' fun c hc=>(ih c hc).1 rfl;refine⟨false,kz,by rw[Z6, ← hk,zt],hok,?_⟩;rw[hk,Zb]at hlen;exact hlen
 | @struct x' ti' fs' cs' h' hk' hlen hf ih=>refine⟨fun e=>?_,fun e=>(by subst e;rw[hl]at h';cases h';rw[kl]at hk';cases hk')⟩;subst e;rw[ht]at h';cases h';rw[kt]at hk';cases hk';rw[zt]at hlen;obtain⟨a,b,c,d,rfl⟩:=Zvp hlen;have q0:=hf 0 i ii (by simp) hi;have q1:=hf 1 s si (by simp) hs;have q2:=hf 2 i ii (by simp) hi;have q3:=(ih 3 l li (by simp) hl).2 rfl;rw[zi]at q0 q2;rw[zs]at q1;rw[zl]at q3;obtain⟨n0,e0,w0⟩:=Zba q0 hi ki;obtain⟨n1,e1,w1⟩:=ZlY q1 hs ks;obtain⟨n2,e2,w2⟩:=Zba q2 hi ki;obtain⟨b3,kz,e3,w3,w4⟩:=q3;simp only[List.drop_zero,List.drop_succ_cons,List.take_succ_cons,List.take_zero,List.cons.injEq,and_true]at e0 e1 e2 e3;subst e0 e1 e2 e3;exact⟨.mk n0 n1 n2 b3 kz,rfl,.mk w0 w2 w1 w4 w3⟩
end
section
variable {E:Env} {P:Program} {w:World}
theorem Zn0 {w':World} (h:∀k,k<w.heap.size→w'.heap[k]? = w.heap[k]?) {p:MemPlace} (hp:p.block<w.heap.size):w.sameAt w' p:=by
 cases p with
 |cell b o=>exact World.cell?_of_block (w:=w) (h b hp)
 |map b=>exact h b hp
end
abbrev ZY:=List UInt8
def ZD (l:List ZY):List (List PV):=l.map fun s=>[.str s]
theorem ZC (l:List ZY):(ZD l).length=l.length:=by simp[ZD]
theorem Xf {l:List ZY} {x:ZY} (h:l[i]? = some x):(ZD l)[i]? = some [.str x]:=by simp[ZD,h]
structure Mo where
 kind:Int
 num:Int
 role:Int
 an:Bool
 agents:List ZY
 goal:Int
 tn:Bool
 terms:List Tm
def Mo.cells (m:Mo):List PV:=[.int .i64 m.kind,.int .i64 m.num,.int .i64 m.role,slV m.an 1 (ZD m.agents),.int .i64 m.goal,slV m.tn 4 (Za m.terms)]
def moC (l:List Mo):List (List PV):=l.map Mo.cells
theorem Y3 (l:List Mo):(moC l).length=l.length:=by simp[moC]
theorem Vs {l:List Mo} {m:Mo} (h:l[i]? = some m):(moC l)[i]? = some m.cells:=by simp[moC,h]
theorem Zg2 (a b:List Mo):moC (a++b)=moC a++moC b:=by simp[moC]
structure Mo.Ok (m:Mo):Prop where
 kind:(Lit.int .i64 m.kind).wf=true
 num:(Lit.int .i64 m.num).wf=true
 role:(Lit.int .i64 m.role).wf=true
 goal:(Lit.int .i64 m.goal).wf=true
 al:m.agents.length≤maxLen
 ags:∀s,s∈m.agents→s.length≤maxLen
 tl:m.terms.length≤maxLen
 ts:∀t,t∈m.terms→t.Ok
def Zlk (m:Mo):Bool:= !(decide (8<m.agents.length))&&(!(decide (14<m.terms.length))&&m.agents.all fun s=> !(decide (40<s.length)))
def U2 (l:List Mo):Bool:=if 420<l.length then false else if l.all Zlk then ZiN (l.flatMap (·.terms)) 1000 800 else false
theorem Zs (a b:List Tm):Za (a++b)=Za a++Za b:=by simp[Ys]
theorem Zr (l:List Tm):(Za l).all (fun c=>c.all ZL)=true:=by rw[Ys,List.all_map,List.all_eq_true];rintro⟨k,nm,s,b,kz⟩ _;simp only[Function.comp,Tm.cells,List.all_cons,List.all_nil,Yd];rfl
theorem Mo.cells_ok (m:Mo):m.cells.all ZL=true:=by simp only[Mo.cells,List.all_cons,List.all_nil,Yd];rfl
theorem Zvl {α:Type} {l:List α} (h:l.length=6):∃a b c d e f,l= [a,b,c,d,e,f]:=by
 match l,h with
 | [a,b,c,d,e,f],_=>exact⟨a,b,c,d,e,f,rfl⟩
def Yc:PV→Option Nat
 | .sl (.tok k) _ _=>some k
 |_=>none
inductive ApV (b:Bool) (es:Nat):List (List PV)→PV→List Nat→Nat→Prop
 |nil (lv:List Nat) (nt:Nat) (h:b=true):ApV b es [] .nils lv nt
 |full (L:List (List PV)) (lv:List Nat) (nt:Nat) (h:b=false) (hB:noB L=true):ApV b es L (.sl .full es L) lv nt
 |tok (L:List (List PV)) (k:Nat) (lv:List Nat) (nt:Nat) (hL:L≠ []) (hk:k∈lv) (hn:k<nt) (hB:noB L=true):ApV b es L (.sl (.tok k) es L) lv nt
theorem VI {M:List (List PV)} (h:noB L=true) (h2:noB M=true):noB (L++M)=true:=by simp only[noB,List.all_append,Bool.and_eq_true]at h h2 ⊢;exact⟨h,h2⟩
theorem XC:∀{l:List Nat} {k:Nat},k∈l→∃l',X5 k l=some l'∧∀j,j∈l→j≠k→j∈l'
 | x :: r, k, h => by
   simp only[X5]
   by_cases e:x=k
   · rw[if_pos e]
     refine⟨r,rfl,fun j hj hn=>?_⟩
     rcases List.mem_cons.1 hj with e2|hj
     · exact absurd (e2.trans e) hn
     · exact hj
   · rw[if_neg e]
     have hr:k∈r:=by
      rcases List.mem_cons.1 h with e2|h
      · exact absurd e2.symm e
      · exact h
     obtain⟨l',h1,h2⟩:=XC hr
     rw[h1]
     refine⟨x::l',rfl,fun j hj hn=>?_⟩
     rcases List.mem_cons.1 hj with e2|hj
     · rw[e2];exact List.mem_cons_self
     · exact List.mem_cons_of_mem _ (h2 j hj hn)
theorem ApV.under {b:Bool} {es:Nat} {L:List (List PV)} {out:PV} {lv:List Nat} {nt:Nat} (h:ApV b es L out lv nt) (n:Nat):under n out=true:=by cases h<;>rfl
theorem ApV.frz1 {b:Bool} {es:Nat} {L:List (List PV)} {out:PV} {lv:List Nat} {nt:Nat} (h:ApV b es L out lv nt):frz1 out=some (slV b es L):=by
 cases h with
 |nil lv nt h=>subst h;rw[Zi];rfl
 |full L lv nt h=>
  subst h;cases L with
  | nil=>rw[ZB];rfl
  | cons c r=>rw[Zp];rfl
 |tok L k lv nt hL=>
  cases L with
  | nil=>exact absurd rfl hL
  | cons c r=>rw[Zp];rfl
theorem ApV.frzC {b:Bool} {es:Nat} {L:List (List PV)} {out:PV} {lv:List Nat} {nt:Nat} (h:ApV b es L out lv nt) (m:Nat) (H:Heap):frzC m H out=some (slV b es L):=by have h1:=h.frz1;cases h<;>exact h1
theorem ApV.frz2 {b:Bool} {es:Nat} {L:List (List PV)} {out:PV} {lv:List Nat} {nt:Nat} (h:ApV b es L out lv nt) (m:Nat) (H:Heap):frz2 m H out=some (slV b es L):=by have h1:=h.frz1;cases h<;>exact h1
theorem ApV.frz3 {b:Bool} {es:Nat} {L:List (List PV)} {out:PV} {lv:List Nat} {nt:Nat} (h:ApV b es L out lv nt) (m:Nat) (H:Heap):frz3 m H out=some (slV b es L):=by have h1:=h.frz1;cases h<;>exact h1
theorem ApV.frzG {b:Bool} {es:Nat} {L:List (List PV)} {out:PV} {lv:List Nat} {nt:Nat} (h:ApV b es L out lv nt):frzG out=some (slV b es L):=by have h1:=h.frz1;cases h<;>exact h1
structure ElV (es:Nat) (x:PV) (el:List (List PV)):Prop where
 el:∀H,YK H x=some el
 size:Wi es x=es
theorem ElV.slV (b:Bool) (es:Nat) (el:List (List PV)):ElV es (slV b es el) el:=by
 cases el with
 | nil => cases b
          · rw[ZB];exact⟨fun _=>rfl,rfl⟩
          · rw[Zi];exact⟨fun _=>rfl,rfl⟩
 |cons c r=>rw[Zp];exact⟨fun _=>rfl,rfl⟩
theorem ElV.sl (tl:Tail) (es:Nat) (el:List (List PV)):ElV es (.sl tl es el) el:=⟨fun _=>rfl,rfl⟩
section
variable {E:Env}
structure ApT (E:Env) (t u:TypeId) (es by_:Nat):Prop where
 h:∃ti ui e f ei,E.T t=some ti∧E.T u=some ui∧ti.tk= .slice e∧ui.tk= .slice f∧E.T e=some ei∧ei.size=es∧ei.bytes=by_∧0<ei.size∧ei.zero.cells.length=ei.size
theorem ZW {t:TypeId} (hT:ApT E t u es by_) {s x:PV} (hx:ElV es x el) (hok:el.all (fun c=>c.all ZL)=true) (hs:Wi es s=es) (ho:Zkt s=true) (H:Heap):XK E t u s x H=some (es,by_,el):=by obtain⟨ti,ui,e,f,ei,h1,h2,h3,h4,h5,h6,h7,h8,h9⟩:=hT.h;simp only[XK,h1,h2,h3,h4,h5];subst h6 h7;rw[if_pos ⟨h8,h9,hs,hx.size⟩,hx.el H];simp only[hok,ho,and_self,if_true]
theorem ApV.app {b:Bool} {out:PV} {lv:List Nat} {nt:Nat} (h:ApV b es L out lv nt) {t:TypeId} (hT:ApT E t u es by_) {x:PV} (hx:ElV es x el) (hok:el.all (fun c=>c.all ZL)=true) (hf:VX L.length el.length by_=true) (hnb:noB el=true):∃out' lv' nt',(∀bx ro,ZP E t u out x ⟨bx,ro,lv,nt⟩=some (out',⟨bx,ro,lv',nt'⟩))∧ApV b es (L++el) out' lv' nt'∧∀b2 es2 L2 out2,ApV b2 es2 L2 out2 lv nt→(Yc out2=none∨Yc out2≠Yc out)→ApV b2 es2 L2 out2 lv' nt'∧(Yc out2=none∨Yc out2≠Yc out'):=by
 have hs:Wi es out=es:=by cases h<;>rfl
 have ho:Zkt out=true:=by cases h<;>rfl
 cases el with
 |nil=>refine⟨out,lv,nt,fun bx ro=>?_,by rw[List.append_nil];exact h,fun b2 es2 L2 out2 h2 hne=>⟨h2,hne⟩⟩;simp only[ZP,ZW hT hx hok hs ho]
 |cons y yr=>
  have fresh:∀(lv':List Nat),(∀j,j∈lv→some j≠Yc out→j∈lv')→∀b2 es2 L2 out2,ApV b2 es2 L2 out2 lv nt→(Yc out2=none∨Yc out2≠Yc out)→ApV b2 es2 L2 out2 (nt::lv') (nt+1)∧(Yc out2=none∨Yc out2≠Yc (.sl (.tok nt) es (L++y::yr))):=fun lv' hl b2 es2 L2 out2 h2 hne=>by
   cases h2 with
   | nil _ _ hb=>exact⟨.nil _ _ hb,.inl rfl⟩
   | full _ _ _ hb hB=>exact⟨.full _ _ _ hb hB,.inl rfl⟩
   | tok _ k _ _ hL hk hn hB =>
     have hne2:some k≠Yc out:=by
      rcases hne with h|h
      · simp[Yc]at h
      · exact h
     refine⟨.tok _ k _ _ hL (List.mem_cons_of_mem _ (hl k hk hne2)) (by omega) hB,.inr ?_⟩
     simp only[Yc,ne_eq,Option.some.injEq]
     omega
  cases h with
  | nil _ _ hb=>refine⟨.sl (.tok nt) es (y::yr),nt::lv,nt+1,fun bx ro=>?_,.tok _ nt _ _ (by simp) List.mem_cons_self (Nat.lt_succ_self _) hnb,fresh lv fun j hj _=>hj⟩;simp only[ZP,ZW hT hx hok hs ho,YD,List.nil_append];exact if_pos (by rw[hf,ZbF hnb];rfl)
  | full _ _ _ hb hB=>refine⟨.sl (.tok nt) es (L++y::yr),nt::lv,nt+1,fun bx ro=>?_,.tok _ nt _ _ (by simp) List.mem_cons_self (Nat.lt_succ_self _) (VI hB hnb),fresh lv fun j hj _=>hj⟩;simp only[ZP,ZW hT hx hok hs ho,YD];rw[if_pos (by rw[hf,ZbF (VI hB hnb)];rfl)]
  | tok _ k _ _ hL hk hn hB=>obtain⟨l',h1,h2⟩:=XC hk;refine⟨.sl (.tok nt) es (L++y::yr),nt::l',nt+1,fun bx ro=>?_,.tok _ nt _ _ (by simp) List.mem_cons_self (Nat.lt_succ_self _) (VI hB hnb),fresh l' fun j hj hne=>h2 j hj fun e=>hne (by rw[e];rfl)⟩;simp only[ZP,ZW hT hx hok hs ho];rw[if_pos (by rw[hf,ZbF (VI hB hnb),hnb,Bool.or_true];rfl),h1]
end
mutual
def Tm.all:Tm→List Tm
 | .mk k nm s b kz=> .mk k nm s b kz::Qx kz
def Qx:List Tm→List Tm
 | []=>[]
 |t::r=>t.all++Qx r
end
def Tm.knd:Tm→Int
 | .mk k _ _ _ _=>k
theorem ZdU (h:l[i]? = some t):Qx (l.take (i+1))=Qx (l.take i)++t.all:=by
 induction l generalizing i with
 |nil=>simp at h
 |cons a r ih=>
  cases i with
  | zero=>simp at h;subst h;simp[Qx]
  | succ i=>simp at h;simp only[List.take_succ_cons,Qx,ih h,List.append_assoc]
mutual
theorem Tm.all_len:∀t:Tm,t.all.length=t.size
 | .mk k nm s b kz=>by have:=UI kz;simp only[Tm.all,Tm.size,List.length_cons];omega
theorem UI:∀l:List Tm,(Qx l).length=Zk l
 | []=>rfl
 |t::r=>by have:=t.all_len;have:=UI r;simp only[Qx,Zk,List.length_append];omega
end
theorem Zmk (ht:t.Ok):∀x,x∈t.all→x.Ok∧x.size≤t.size:=by
 induction ht with
 | @mk k nm s b kz hk hs hn hl hok ih=>
  have key:∀l:List Tm,(∀t,t∈l→t∈kz)→∀x,x∈Qx l→x.Ok∧x.size≤Zk l:=by
   intro l
   induction l with
   | nil=>intro _ x hx;simp[Qx]at hx
   | cons a r ih2 =>
     intro hl x hx
     simp only[Qx,List.mem_append]at hx
     simp only[Zk]
     rcases hx with hx|hx
     · have := ih a (hl a List.mem_cons_self) x hx
       exact⟨this.1,by omega⟩
     · have := ih2 (fun t ht => hl t (List.mem_cons_of_mem _ ht)) x hx
       exact⟨this.1,by omega⟩
  intro x hx;simp only[Tm.all,List.mem_cons]at hx;rcases hx with rfl|hx;{exact⟨.mk hk hs hn hl hok,Nat.le_refl _⟩};{have:=key kz (fun _ h=>h) x hx;simp only[Tm.size];exact⟨this.1,by omega⟩}
def VE (k:Int) (l:List Tm):List Tm:=l.filter fun t=>decide (t.knd=k)
theorem ZhN {k:Int} (h:l[i]? = some t):VE k (l.take (i+1))=VE k (l.take i)++if t.knd=k then[t] else[]:=by simp only[VE,List.take_add_one,h,Option.toList_some,List.filter_append];congr 1;by_cases c:t.knd=k<;>simp[c]
theorem QG (k:Int) (l:List Tm):(VE k l).length≤l.length:=List.length_filter_le _ _
def ZE (t:Tm) (s:List Tm×Bool) (x:Tm):List Tm×Bool:=
 if s.2=false∧t.cmp x≤0 then((s.1++if t.cmp x<0 then[t] else[])++ [x],true) else(s.1++ [x],s.2)
def Qr (l:List Tm) (t:Tm):List Tm:=match l.foldl (ZE t) ([],false) with
 |(o,true)=>o
 |(o,false)=>o++ [t]
def ZhW (l:List Tm):List Tm:=l.foldl Qr []
theorem XS {α β:Type} {f:β→α→β} {b:β} {l:List α} {x:α} (h:l[i]? = some x):(l.take (i+1)).foldl f b=f ((l.take i).foldl f b) x:=by simp[List.take_add_one,h,List.foldl_append]
def b01:Bool→Nat
 |true=>0
 |false=>1
theorem Zec (t:Tm) (s:List Tm×Bool) (x:Tm):(ZE t s x).1.length+b01 (ZE t s x).2≤s.1.length+b01 s.2+1:=by unfold ZE;split;{rename_i h;rw[h.1];split<;>simp[b01]};{simp;omega}
theorem Uj (t:Tm):∀(l:List Tm) (s:List Tm×Bool),(l.foldl (ZE t) s).1.length+b01 (l.foldl (ZE t) s).2≤s.1.length+b01 s.2+l.length
 | [],s=>by simp
 |x::r,s=>by have h1:=Uj t r (ZE t s x);have h2:=Zec t s x;simp only[List.foldl_cons,List.length_cons];omega
theorem Zgb (l:List Tm) (t:Tm):(Qr l t).length≤l.length+1:=by have:=Uj t l ([],false);unfold Qr;generalize l.foldl (ZE t) ([],false)=s at this;obtain⟨o,d⟩:=s;cases d<;>simp[b01]at* <;> omega
theorem Zat (t:Tm):∀(l:List Tm) (s:List Tm×Bool) (x:Tm),x∈(l.foldl (ZE t) s).1→x∈s.1∨x∈l∨x=t
 | [],s,x,h=> .inl h
 |y::r,s,x,h=>by rcases Zat t r (ZE t s y) x h with h1|h1|h1;{unfold ZE at h1;split at h1;{split at h1;{(simp at h1;rcases h1 with h1|h1|h1);{exact .inl h1};{exact .inr (.inr h1)};{exact .inr (.inl (by simp[h1]))}};{(simp at h1;rcases h1 with h1|h1);{exact .inl h1};{exact .inr (.inl (by simp[h1]))}}};{(simp at h1;rcases h1 with h1|h1);{exact .inl h1};{exact .inr (.inl (by simp[h1]))}}};{exact .inr (.inl (List.mem_cons_of_mem _ h1))};{exact .inr (.inr h1)}
theorem Zgj (h:x∈Qr l t):x∈l∨x=t:=by
 unfold Qr at h;have:=Zat t l ([],false) x;generalize l.foldl (ZE t) ([],false)=s at this h;obtain⟨o,d⟩:=s;cases d with
 |true=>rcases this h with h|h|h<;>simp_all
 |false=>simp at h;rcases h with h|h;{rcases this h with h|h|h<;>simp_all};{exact .inr h}
theorem Zby (t:Tm):∀(l:List Tm) (s:List Tm×Bool),(s.1≠ []∨s.2=false)→((l.foldl (ZE t) s).1≠ []∨(l.foldl (ZE t) s).2=false)
 | [],_,h=>h
 |y::r,s,_=>by refine Zby t r (ZE t s y) (.inl ?_);unfold ZE;split;{split<;>simp};{simp}
theorem ZjN (l:List Tm) (t:Tm):Qr l t≠ []:=by
 unfold Qr;have:=Zby t l ([],false) (.inr rfl);generalize l.foldl (ZE t) ([],false)=s at this;obtain⟨o,d⟩:=s;cases d with
 |true=>simpa using this
 |false=>simp
theorem QU:∀(l o:List Tm),(l.foldl Qr o).length≤o.length+l.length
 | [],o=>by simp
 |x::r,o=>by have:=QU r (Qr o x);have:=Zgb o x;simp only[List.foldl_cons,List.length_cons];omega
theorem Zac:∀(l o:List Tm) (x:Tm),x∈l.foldl Qr o→x∈o∨x∈l
 | [],o,x,h=> .inl h
 |y::r,o,x,h=>by rcases Zac r (Qr o y) x h with h|h;{rcases Zgj h with h|h;{exact .inl h};{exact .inr (by simp[h])}};{exact .inr (List.mem_cons_of_mem _ h)}
theorem Za2:∀(l o:List Tm),o≠ []→l.foldl Qr o≠ []
 | [],_,h=>h
 |x::r,o,_=>Za2 r (Qr o x) (ZjN o x)
theorem Zlu:ZhW l= []↔l= []:=by
 cases l with
 |nil=>simp[ZhW]
 |cons a r=>simp only[ZhW,List.foldl_cons,reduceCtorEq,iff_false];exact Za2 r _ (ZjN [] a)
def Tm.ground (t:Tm):Bool:=(VE 1 t.all).isEmpty
mutual
def Tm.cl:Tm→Tm
 | .mk k nm s _ kz=> .mk k nm s true (clL kz)
def clL:List Tm→List Tm
 | []=>[]
 |t::r=>t.cl::clL r
end
theorem XI (l:List Tm):clL l=l.map Tm.cl:=by
 induction l with
 |nil=>rfl
 |cons a r ih=>simp[clL,ih]
theorem Wl (l:List Tm):(clL l).length=l.length:=by rw[XI,List.length_map]
theorem ZbQ (h:l[i]? = some t):clL (l.take (i+1))=clL (l.take i)++ [t.cl]:=by simp[XI,List.take_add_one,h]
abbrev Bs:=List UInt8
theorem WF {a b:Int}:thn a b=0↔a=0∧b=0:=by unfold thn;by_cases h:a=0;{simp[h]};{simp[h]}
theorem Za4 {a b:Int}:WE a b=0↔a=b:=⟨Wj,fun h=>by subst h;simp[WE]⟩
theorem ZdL {a b:List UInt8}:Qt a b=0↔a=b:=by constructor;{intro h;simp only[Qt]at h;split at h;{omega};{split at h;{assumption};{omega}}};{rintro rfl;simp[Qt,XF]}
mutual
theorem ZdF:∀a b:Tm,a.cmp b=0→a.cl=b.cl
 | .mk k nm s n l,.mk k' nm' s' n' l',h=>by simp only[Tm.cmp,WF,Za4,ZdL]at h;obtain⟨_,h2,h3,h4,h5,h6⟩:=h;subst h2 h3 h4;simp only[Tm.cl];rw[Zbd l l' (by omega) h6]
theorem Zbd:∀l l':List Tm,l.length=l'.length→VK l l'=0→clL l=clL l'
 | [],[],_,_=>rfl
 | [],_::_,h,_=>by simp at h
 |_::_,[],h,_=>by simp at h
 |a::r,b::r',h,h'=>by simp only[VK,WF]at h';simp only[clL];rw[ZdF a b h'.1,Zbd r r' (by simpa using h) h'.2]
end
mutual
theorem Zcb:∀t:Tm,t.cl.size=t.size
 | .mk _ _ _ _ l=>by simp only[Tm.cl,Tm.size,UR l]
theorem UR:∀l:List Tm,Zk (clL l)=Zk l
 | []=>rfl
 |t::r=>by simp only[clL,Zk,Zcb t,UR r]
end
mutual
theorem Zdf:∀a b:Tm,a.cl=b.cl→a.cmp b=0
 | .mk k nm s n l,.mk k' nm' s' n' l',h=>by
  simp only[Tm.cl,Tm.mk.injEq,true_and]at h;obtain⟨rfl,rfl,rfl,h5⟩:=h;have h6:l.length=l'.length:=by have:=congrArg List.length h5;simpa[Wl] using this
  have h7:Zk l=Zk l':=by have:=congrArg Zk h5;simpa[UR] using this
  simp only[Tm.cmp,WF,Za4,ZdL,h6,h7,true_and];exact Zbt l l' h5
theorem Zbt:∀l l':List Tm,clL l=clL l'→VK l l'=0
 | [],_,_=>rfl
 |_::_,[],h=>by simp[clL]at h
 |a::r,b::r',h=>by simp only[clL,List.cons.injEq]at h;simp only[VK,WF];exact⟨Zdf a b h.1,Zbt r r' h.2⟩
end
theorem XG:a.cmp b=0↔a.cl=b.cl:=⟨ZdF a b,Zdf a b⟩
theorem Zkn:a.cmp b=0↔b.cmp a=0:=by rw[XG,XG];exact eq_comm
mutual
theorem ZcV:∀t:Tm,t.cl.cl=t.cl
 | .mk _ _ _ _ l=>by simp only[Tm.cl,Zhx l]
theorem Zhx:∀l:List Tm,clL (clL l)=clL l
 | []=>rfl
 |t::r=>by simp only[clL,ZcV t,Zhx r]
end
def Tm.nm:Tm→Bs
 | .mk _ nm _ _ _=>nm
theorem ZpN (t:Tm):t.cl.nm=t.nm:=by cases t;rfl
theorem Zot {u:Nat} (h:u<10):Lib.decDigits u= [UInt8.ofNat (48+u)]:=by rw[Lib.decDigits,dif_pos h]
theorem ZqT {u:Nat} (h:¬ u<10):Lib.decDigits u=Lib.decDigits (u / 10)++ [UInt8.ofNat (48+u % 10)]:=by rw[Lib.decDigits,dif_neg h]
theorem XO (a b:Tm):b.cmp a= - a.cmp b:=(VZ (a.size+b.size)).anti a b (Nat.le_add_right _ _) (Nat.le_add_left _ _)
theorem XX {c:Tm} (h1:a.cmp b<0) (h2:b.cmp c≤0):a.cmp c<0:=
 (VZ (a.size+b.size+c.size)).strict1 (by show a.size≤_;omega) (by show b.size≤_;omega) (by show c.size≤_;omega) h1 h2
theorem Q6 {c:Tm} (h1:a.cmp b≤0) (h2:b.cmp c<0):a.cmp c<0:=
 (VZ (a.size+b.size+c.size)).strict2 (by show a.size≤_;omega) (by show b.size≤_;omega) (by show c.size≤_;omega) h1 h2
def Asc:List Tm→Prop
 | []=>True
 |x::r=>(∀y,y∈r→x.cmp y<0)∧Asc r
def Yb:List Tm→List Tm→List Tm
 | [],b=>b
 |x::a,[]=>x::a
 |x::a,y::b=>if x.cmp y<0 then x::Yb a (y::b) else if 0<x.cmp y then y::Yb (x::a) b else Yb a b
termination_by a b=>a.length+b.length
theorem XV (a:List Tm):Yb a []=a:=by cases a<;>rw[Yb]
theorem X2:∀(a b:List Tm) (z:Tm),z∈Yb a b→z∈a∨z∈b
 | [],b,z,h=>by rw[Yb]at h;exact .inr h
 |x::a,[],z,h=>by rw[Yb]at h;exact .inl h
 |x::a,y::b,z,h=>by rw[Yb]at h;split at h;{rcases List.mem_cons.1 h with rfl|h;{exact .inl List.mem_cons_self};{rcases X2 a (y::b) z h with h|h;{exact .inl (List.mem_cons_of_mem _ h)};{exact .inr h}}};{split at h;{rcases List.mem_cons.1 h with rfl|h;{exact .inr List.mem_cons_self};{rcases X2 (x::a) b z h with h|h;{exact .inl h};{exact .inr (List.mem_cons_of_mem _ h)}}};{rcases X2 a b z h with h|h;{exact .inl (List.mem_cons_of_mem _ h)};{exact .inr (List.mem_cons_of_mem _ h)}}}
termination_by a b=>a.length+b.length
theorem Vo:∀(a b:List Tm),Asc a→Asc b→Asc (Yb a b)
 | [],b,_,hb=>by rw[Yb];exact hb
 |x::a,[],ha,_=>by rw[Yb];exact ha
 |x::a,y::b,ha,hb=>by rw[Yb];split;{rename_i h;refine⟨fun z hz=>?_,Vo a (y::b) ha.2 hb⟩;rcases X2 a (y::b) z hz with hz|hz;{exact ha.1 z hz};{rcases List.mem_cons.1 hz with rfl|hz;{exact h};{exact XX h (Int.le_of_lt (hb.1 z hz))}}};{split;{rename_i h1 h;(have h:y.cmp x<0:=by rw[XO x y];omega);refine⟨fun z hz=>?_,Vo (x::a) b ha hb.2⟩;rcases X2 (x::a) b z hz with hz|hz;{rcases List.mem_cons.1 hz with rfl|hz;{exact h};{exact XX h (Int.le_of_lt (ha.1 z hz))}};{exact hb.1 z hz}};{exact Vo a b ha.2 hb.2}}
termination_by a b=>a.length+b.length
def Ze5 (l:List Tm) (t:Tm):Bool:=l.any fun x=>decide (x.cmp t=0)
def ZaD (l:List Tm) (t:Tm):List Tm:=if Ze5 l t=true then l.filter fun x=> !decide (x.cmp t=0) else Qr l t
def ZaQ (a b:List Tm):List Tm:=b.foldl ZaD a
theorem X7 (t:Tm):∀(l o:List Tm),l.foldl (ZE t) (o,true)=(o++l,true)
 | [],o=>by simp
 |x::r,o=>by rw[List.foldl_cons,show ZE t (o,true) x=(o++ [x],true) by simp[ZE],X7 t r];simp
theorem V5 (t:Tm):∀(l o:List Tm),l.foldl (ZE t) (o,false)=(o++(l.foldl (ZE t) ([],false)).1,(l.foldl (ZE t) ([],false)).2)
 | [],o=>by simp
 |x::r,o=>by rw[List.foldl_cons,List.foldl_cons];by_cases h:t.cmp x≤0;{(have e:∀o:List Tm,ZE t (o,false) x=((o++if t.cmp x<0 then[t] else[])++ [x],true):=fun o=>by simp[ZE,h]);rw[e,e,X7,X7];simp};{(have e:∀o:List Tm,ZE t (o,false) x=(o++ [x],false):=fun o=>by simp[ZE,h]);rw[e,e,V5 t r (o++ [x]),V5 t r ([]++ [x])];simp}
theorem Zn6 (h:x.cmp t<0) (r:List Tm):Qr (x::r) t=x::Qr r t:=by
 have h2:¬ t.cmp x≤0:=by rw[XO x t];omega
 unfold Qr;rw[List.foldl_cons,show ZE t ([],false) x=([x],false) by simp[ZE,h2],V5 t r [x]];generalize List.foldl (ZE t) ([],false) r=F;obtain⟨o,d⟩:=F;cases d<;>simp
theorem ZnZ (h:t.cmp x<0) (r:List Tm):Qr (x::r) t=t::x::r:=by unfold Qr;rw[List.foldl_cons,show ZE t ([],false) x=([t,x],true) by simp[ZE,h,Int.le_of_lt h],X7];rfl
theorem Zo7 (h:x.cmp t<0) (r:List Tm):Ze5 (x::r) t=Ze5 r t:=by simp only[Ze5,List.any_cons];rw[decide_eq_false (by omega),Bool.false_or]
theorem ZkX (h:∀x,x∈l→x.cmp t≠0):Ze5 l t=false:=by rw[Bool.eq_false_iff];intro e;obtain⟨x,hx,e⟩:=List.any_eq_true.1 e;exact h x hx (of_decide_eq_true e)
theorem ZpX (h:x.cmp t<0) (r:List Tm):ZaD (x::r) t=x::ZaD r t:=by unfold ZaD;rw[Zo7 h];split;{rw[List.filter_cons,if_pos (by simp;omega)]};{rw[Zn6 h]}
theorem ZpB (h:t.cmp x<0) (ha:Asc (x::r)):ZaD (x::r) t=t::x::r:=by
 have hn:Ze5 (x::r) t=false:=ZkX fun z hz=>by
  have:t.cmp z<0:=by rcases List.mem_cons.1 hz with rfl|hz;{exact h};{exact XX h (Int.le_of_lt (ha.1 z hz))}
  rw[XO t z];omega
 unfold ZaD;rw[hn,if_neg (by simp),ZnZ h]
theorem Zpb (h:x.cmp t=0) (ha:Asc (x::r)):ZaD (x::r) t=r:=by
 unfold ZaD;have hy:Ze5 (x::r) t=true:=by simp only[Ze5,List.any_cons,decide_eq_true h,Bool.true_or]
 rw[if_pos hy,List.filter_cons,if_neg (by simp[h])];refine List.filter_eq_self.2 fun z hz=>?_;have h1:t.cmp z<0:=Q6 (by rw[XO x t];omega) (ha.1 z hz);have:z.cmp t≠0:=by rw[XO t z];omega
 simp[this]
theorem Zb1:∀(a:List Tm) (y:Tm) (b:List Tm),Asc a→Asc (y::b)→Yb (ZaD a y) b=Yb a (y::b)
 | [],y,b,_,hb=>by
  have e:ZaD [] y= [y]:=rfl;rw[e];cases b with
  | nil=>rw[XV,Yb]
  | cons z b=>rw[Yb,Yb,if_pos (hb.1 z List.mem_cons_self),Yb]
 |x::a,y,b,ha,hb=>by
  by_cases h1:x.cmp y<0
  ·have ih:=Zb1 a y b ha.2 hb;rw[ZpX h1,Yb,if_pos h1, ← ih];cases b with
   | nil=>rw[XV,XV]
   | cons z b=>rw[Yb,if_pos (XX h1 (Int.le_of_lt (hb.1 z List.mem_cons_self)))]
  ·by_cases h2:0<x.cmp y
   ·(have h3:y.cmp x<0:=by rw[XO x y];omega);rw[ZpB h3 ha,Yb,if_neg h1,if_pos h2];cases b with
    | nil=>rw[XV,XV]
    | cons z b=>rw[Yb,if_pos (hb.1 z List.mem_cons_self)]
   {rw[Zpb (by omega) ha,Yb,if_neg h1,if_neg h2]}
theorem Zop {a:List Tm} (ha:Asc a) (y:Tm):Asc (ZaD a y):=by have h:=Zb1 a y [] ha ⟨fun z hz=>absurd hz (by simp),trivial⟩;rw[XV]at h;rw[h];exact Vo a [y] ha ⟨fun z hz=>absurd hz (by simp),trivial⟩
theorem ZdX:∀(b a:List Tm),Asc a→Asc b→ZaQ a b=Yb a b
 | [],a,_,_=>(XV a).symm
 |y::b,a,ha,hb=>by show ZaQ (ZaD a y) b=_;rw[ZdX b (ZaD a y) (Zop ha y) hb.2,Zb1 a y b ha hb]
def VM:List UInt8:=[122,101,114,111]
def ZbZ:List UInt8:=[120,111,114]
mutual
def Tm.sumP:Tm→List Tm
 | .mk k nm s b kz=>if k=3∧nm=VM∧kz= [] then[] else if k=3∧nm=ZbZ then ZS kz [] else[.mk k nm s b kz]
def ZS:List Tm→List Tm→List Tm
 | [],o=>o
 |t::r,o=>ZS r (Yb o t.sumP)
end
mutual
theorem Zh8:∀t:Tm,Asc t.sumP
 | .mk k nm s b kz=>by rw[Tm.sumP];split;{trivial};{split;{exact QL kz [] trivial};{exact⟨fun z hz=>absurd hz (by simp),trivial⟩}}
theorem QL:∀(l o:List Tm),Asc o→Asc (ZS l o)
 | [],o,h=>by rw[ZS];exact h
 |t::r,o,h=>by rw[ZS];exact QL r _ (Vo o _ h (Zh8 t))
end
abbrev Pw:=Tm×Int
def VS:List Pw→Prop
 | []=>True
 |x::r=>(x.2≠0∧∀y,y∈r→x.1.cmp y.1<0)∧VS r
def WV:List Pw→Tm→Int→List Pw
 | [],t,n=>[(t,n)]
 |x::r,t,n=>if x.1.cmp t<0 then x::WV r t n else if t.cmp x.1<0 then(t,n)::x::r else if x.2+n=0 then r else(x.1,x.2+n)::r
theorem Zck:∀(l:List Pw) (t:Tm) (n:Int) (z:Pw),z∈WV l t n→z∈l∨z.1=t∨∃y,y∈l∧y.1=z.1
 | [],t,n,z,h=>by simp only[WV,List.mem_singleton]at h;subst h;exact .inr (.inl rfl)
 |x::r,t,n,z,h=>by simp only[WV]at h;split at h;{rcases List.mem_cons.1 h with rfl|h;{exact .inl List.mem_cons_self};{rcases Zck r t n z h with h|h|⟨y,h1,h2⟩;{exact .inl (List.mem_cons_of_mem _ h)};{exact .inr (.inl h)};{exact .inr (.inr ⟨y,List.mem_cons_of_mem _ h1,h2⟩)}}};{split at h;{rcases List.mem_cons.1 h with rfl|h;{exact .inr (.inl rfl)};{exact .inl h}};{split at h;{exact .inl (List.mem_cons_of_mem _ h)};{rcases List.mem_cons.1 h with rfl|h;{exact .inr (.inr ⟨x,List.mem_cons_self,rfl⟩)};{exact .inl (List.mem_cons_of_mem _ h)}}}}
theorem QO:∀{l:List Pw} {t:Tm} {n:Int},VS l→n≠0→VS (WV l t n)
 | [],t,n,_,hn=>⟨⟨hn,fun y hy=>absurd hy (by simp)⟩,trivial⟩
 |x::r,t,n,h,hn=>by simp only[WV];split;{rename_i h1;refine⟨⟨h.1.1,fun y hy=>?_⟩,QO h.2 hn⟩;rcases Zck r t n y hy with hy|hy|⟨z,hz,e⟩;{exact h.1.2 y hy};{rw[hy];exact h1};{rw[← e];exact h.1.2 z hz}};{split;{rename_i h1 h2;refine⟨⟨hn,fun y hy=>?_⟩,h⟩;rcases List.mem_cons.1 hy with rfl|hy;{exact h2};{exact XX h2 (Int.le_of_lt (h.1.2 y hy))}};{split;{exact h.2};{rename_i h3;exact⟨⟨h3,h.1.2⟩,h.2⟩}}}
def Yz (t:Tm) (n:Int) (s:List Pw×Bool) (x:Pw):List Pw×Bool:=
 let o:=if s.2=false∧t.cmp x.1<0 then s.1++ [(t,n)] else s.1
 let d:=s.2||decide (t.cmp x.1≤0)
 let m:=if t.cmp x.1=0 then x.2+n else x.2
 (if m≠0 then o++ [(x.1,m)] else o,if s.2=false∧t.cmp x.1<0∨t.cmp x.1=0 then true else s.2&&d)
def Zj4 (l:List Pw) (t:Tm) (n:Int):List Pw:=match l.foldl (Yz t n) ([],false) with
 |(o,true)=>o
 |(o,false)=>o++ [(t,n)]
theorem X0 (t:Tm) (n:Int):∀(l o:List Pw),VS l→(∀y,y∈l→t.cmp y.1<0)→l.foldl (Yz t n) (o,true)=(o++l,true)
 | [],o,_,_=>by simp
 | x :: r, o, h, ht => by
   have h1:=ht x List.mem_cons_self
   have e:Yz t n (o,true) x=(o++ [x],true):=by
    have h2:¬ t.cmp x.1=0:=by omega
    simp[Yz,h2,h.1.1,Int.le_of_lt h1]
   rw[List.foldl_cons,e,X0 t n r _ h.2 fun y hy=>ht y (List.mem_cons_of_mem _ hy)]
   simp
theorem Zct (t:Tm) (n:Int):∀(l o:List Pw),VS l→l.foldl (Yz t n) (o,false)=(o++(l.foldl (Yz t n) ([],false)).1,(l.foldl (Yz t n) ([],false)).2)
 | [],o,_=>by simp
 |x::r,o,h=>by rw[List.foldl_cons,List.foldl_cons];have hr:t.cmp x.1≤0→∀y,y∈r→t.cmp y.1<0:=fun h1 y hy=>Q6 h1 (h.1.2 y hy);by_cases h1:t.cmp x.1<0;{(have h2:¬ t.cmp x.1=0:=by omega);(have e:∀o:List Pw,Yz t n (o,false) x=(o++ [(t,n)]++ [x],true):=fun o=>by simp[Yz,h1,h2,h.1.1]);rw[e,e,X0 t n r _ h.2 (hr (by omega)),X0 t n r _ h.2 (hr (by omega))];simp};{by_cases h2:t.cmp x.1=0;{(have e:∀o:List Pw,Yz t n (o,false) x=(if x.2+n≠0 then o++ [(x.1,x.2+n)] else o,true):=fun o=>by simp[Yz,h2]);rw[e,e,X0 t n r _ h.2 (hr (by omega)),X0 t n r _ h.2 (hr (by omega))];split<;>simp};{(have h3:¬ t.cmp x.1≤0:=by omega);(have e:∀o:List Pw,Yz t n (o,false) x=(o++ [x],false):=fun o=>by simp[Yz,h1,h2,h.1.1]);rw[e,e,Zct t n r (o++ [x]) h.2,Zct t n r ([]++ [x]) h.2];simp}}
theorem QD:∀(l:List Pw) (t:Tm) (n:Int),VS l→Zj4 l t n=WV l t n
 | [],t,n,_=>rfl
 |x::r,t,n,h=>by have hr:t.cmp x.1≤0→∀y,y∈r→t.cmp y.1<0:=fun h1 y hy=>Q6 h1 (h.1.2 y hy);have ih:=QD r t n h.2;have ha:=XO x.1 t;simp only[WV];by_cases h1:t.cmp x.1<0;{rw[if_neg (by omega),if_pos h1];(have h2:¬ t.cmp x.1=0:=by omega);(have e:Yz t n ([],false) x=([(t,n),x],true):=by simp[Yz,h1,h2,h.1.1]);unfold Zj4;rw[List.foldl_cons,e,X0 t n r _ h.2 (hr (by omega))];simp};{by_cases h2:t.cmp x.1=0;{rw[if_neg (by omega),if_neg h1];(have e:Yz t n ([],false) x=(if x.2+n≠0 then[(x.1,x.2+n)] else[],true):=by simp[Yz,h2]);unfold Zj4;rw[List.foldl_cons,e,X0 t n r _ h.2 (hr (by omega))];by_cases h3:x.2+n=0;{rw[if_neg (not_not_intro h3),if_pos h3];simp};{rw[if_pos h3,if_neg h3];simp}};{rw[if_pos (by omega), ← ih];(have e:Yz t n ([],false) x=([x],false):=by simp[Yz,h1,h2,h.1.1]);unfold Zj4;rw[List.foldl_cons,e,Zct t n r [x] h.2];generalize List.foldl (Yz t n) ([],false) r=F;obtain⟨o,d⟩:=F;cases d<;>simp}}
def Ug:List UInt8:=[109,117,108]
def VG:List UInt8:=[105,110,118]
def Um:List UInt8:=[111,110,101]
def ZbO (k:Int) (nm:List UInt8):Bool:=decide (k=3)&&(decide (nm=Ug)||(decide (nm=VG)||decide (nm=Um)))
def arB (nm:List UInt8) (n:Nat):Bool:= !((decide (nm=Ug)&&decide (n<2))||((decide (nm=VG)&& !decide (n=1))||(decide (nm=Um)&& !decide (n=0))))
mutual
def Tm.col:Tm→Int→List Pw→Option (List Pw)
 | .mk k nm s b kz,n,l=>if ZbO k nm=true then(if arB nm kz.length=true then colL kz (if nm=VG then -n else n) l else none) else some (WV l (.mk k nm s b kz) n)
def colL:List Tm→Int→List Pw→Option (List Pw)
 | [],_,l=>some l
 | t :: r, n, l => match t.col n l with
   | some l'=>colL r n l'
   | none=>none
end
mutual
def Tm.ari:Tm→Bool
 | .mk k nm _ _ kz=>if ZbO k nm=true then(if arB nm kz.length=true then Ze1 kz else false) else true
def Ze1:List Tm→Bool
 | []=>true
 |t::r=>t.ari&&Ze1 r
end
mutual
def Tm.colR:Tm→Int→List Pw→List Pw
 | .mk k nm s b kz,n,l=>if ZbO k nm=true then UQ kz (if nm=VG then -n else n) l else Zj4 l (.mk k nm s b kz) n
def UQ:List Tm→Int→List Pw→List Pw
 | [],_,l=>l
 |t::r,n,l=>UQ r n (t.colR n l)
end
theorem Zqs {n:Int} {p:Prop} [Decidable p] (h:n≠0):(if p then -n else n)≠0:=by split<;>omega
mutual
theorem QR:∀(t:Tm) (n:Int) (l:List Pw),VS l→n≠0→(t.ari=true→t.col n l=some (t.colR n l)∧VS (t.colR n l))∧(t.ari=false→t.col n l=none)
 | .mk k nm s b kz,n,l,h,hn=>by simp only[Tm.col,Tm.ari,Tm.colR];by_cases he:ZbO k nm=true;{simp only[if_pos he];by_cases ha:arB nm kz.length=true;{simp only[if_pos ha];exact Zaa kz _ l h (Zqs hn)};{simp only[if_neg ha];exact⟨fun h=>(by cases h),fun _=>trivial⟩}};{simp only[if_neg he];exact⟨fun _=>⟨by rw[QD l _ n h],by rw[QD l _ n h];exact QO h hn⟩,fun h=>by cases h⟩}
theorem Zaa:∀(ts:List Tm) (n:Int) (l:List Pw),VS l→n≠0→(Ze1 ts=true→colL ts n l=some (UQ ts n l)∧VS (UQ ts n l))∧(Ze1 ts=false→colL ts n l=none)
 | [],n,l,h,_=>by simp only[colL,Ze1,UQ];exact⟨fun _=>⟨trivial,h⟩,fun h=>by cases h⟩
 |t::r,n,l,h,hn=>by
  obtain⟨h1,h2⟩:=QR t n l h hn;simp only[colL,Ze1,UQ];cases ht:t.ari with
  | true=>obtain⟨e1,e2⟩:=h1 ht;rw[e1,Bool.true_and];exact Zaa r n _ e2 hn
  | false=>rw[h2 ht];exact⟨fun h=>by simp at h,fun _=>rfl⟩
end
section
variable {E:Env} {P:Program}
theorem Z2 {args args':List PV} {r:PV} {H H':Heap} (h:CallOk E P f args' H r H') (ha:ZH args=some args'):CallOk E P f args H r H':=by intro g w vals hi hg hv;obtain⟨l1,l2⟩:=X8 ha;exact h g w vals hi hg ⟨by rw[l1];exact hv.1,fun i h1 h2=>V.pure (g:=g) _ _ (show V0 g.S _ _ from Zao (hv.2 i (by omega) h2) (l2 i (by omega) h1))⟩
end
section
variable {E:Env} {P:Program}
end
def XQ:List UInt8:=[112,97,105,114]
theorem Yl:∀l:List Tm,l.length≤Zk l
 | []=>by simp
 |t::r=>by have:=Yl r;have:=WQ t;simp only[Zk,List.length_cons];omega
theorem Zd8:∀l:List Bs,ZeS (ZD l)=some l
 | []=>rfl
 |x::r=>by have:=Zd8 r;simp only[ZD,List.map_cons,ZeS]at this ⊢;rw[this]
mutual
theorem ZfA:∀t:Tm,t.cl.nodes=t.nodes
 | .mk k nm s b kz=>by simp only[Tm.cl,Tm.nodes,Wl,ZdQ kz]
theorem ZdQ:∀l:List Tm,Yk (clL l)=Yk l
 | []=>rfl
 |t::r=>by simp only[clL,Yk,ZfA t,ZdQ r]
end
mutual
theorem Ze8:∀t:Tm,t.cl.depth=t.depth
 | .mk k nm s b kz=>by simp only[Tm.cl,Tm.depth,ZdE kz]
theorem ZdE:∀l:List Tm,Yv (clL l)=Yv l
 | []=>rfl
 |t::r=>by simp only[clL,Yv,Ze8 t,ZdE r]
end
theorem VF (t:Tm):t.cl.valid=t.valid:=by simp only[Tm.valid,ZfA,Zcb,Ze8]
theorem XW (h:a.cl=b.cl):a.valid=b.valid:=by rw[← VF a,h,VF b]
def Xp:List UInt8:=[115,105,103,110]
mutual
theorem Ud:∀a b:Tm,a.cl.cmp b.cl=a.cmp b
 | .mk k nm s n l,.mk k' nm' s' n' l'=>by simp only[Tm.cl,Tm.cmp,UR,Wl,Zf0 l l']
theorem Zf0:∀l l':List Tm,VK (clL l) (clL l')=VK l l'
 | [],l'=>by cases l'<;>rfl
 |a::r,[]=>rfl
 |a::r,b::r'=>by simp only[clL,VK,Ud a b,Zf0 r r']
end
theorem ZbM {a' b':Tm} (h:a.cl=a'.cl) (h':b.cl=b'.cl):a.cmp b=a'.cmp b':=by rw[← Ud a b,h,h',Ud]
theorem UC:∀a b:List Tm,(Yb a b).map Tm.cl=Yb (a.map Tm.cl) (b.map Tm.cl)
 | [],b=>by simp only[Yb,List.map_nil]
 |x::a,[]=>by simp only[Yb,List.map_cons,List.map_nil]
 |x::a,y::b=>by have h1:=UC a (y::b);have h2:=UC (x::a) b;have h3:=UC a b;simp only[List.map_cons]at h1 h2 ⊢;rw[Yb,Yb,Ud];split;{rw[List.map_cons,h1]};{split;{rw[List.map_cons,h2]};{rw[h3]}}
termination_by a b=>a.length+b.length
theorem ZnM:clL l= []↔l= []:=by cases l<;>simp[clL]
mutual
theorem Zo4:∀t:Tm,t.cl.sumP=t.sumP.map Tm.cl
 | .mk k nm s b kz=>by simp only[Tm.cl];rw[Tm.sumP,Tm.sumP];simp only[ZnM];split;{rfl};{split;{exact ZbG kz []};{rfl}}
theorem ZbG:∀(l o:List Tm),ZS (clL l) (o.map Tm.cl)=(ZS l o).map Tm.cl
 | [],o=>by simp only[clL,ZS]
 |t::r,o=>by simp only[clL,ZS];rw[Zo4 t, ← UC];exact ZbG r _
end
def ZdZ (m:Bool) (l:List Tm):List Tm:=if m=true then clL l else l
theorem Zfq (m:Bool) (l:List Tm):(ZdZ m l).length=l.length:=by cases m;{rfl};{exact Wl l}
def sumT (f:Bool):List Tm→Tm
 | []=> .mk 3 VM 0 f []
 | [x]=>x
 |x::y::r=> .mk 3 ZbZ 0 false (x::y::r)
theorem ZnW (f f':Bool) (l:List Tm):(sumT f (clL l)).cl=(sumT f' l).cl:=by
 match l with
 | []=>rfl
 | [x]=>simp only[clL,sumT,ZcV]
 |x::y::r=>simp only[clL,sumT,Tm.cl,ZcV,Zhx]
def Xl:List Tm→Int
 | []=>0
 |t::r=>if t.valid≠0 then t.valid else Xl r
def sumG (m:Bool) (l:List Tm):Tm×Int:=
 if 200<l.length then(.zero,3) else if Xl l≠0 then(.zero,Xl l) else if(sumT m (ZdZ m (ZS l []))).valid≠0 then(.zero,3) else(sumT m (ZdZ m (ZS l [])),0)
theorem Zdr:∀{l m:List Tm},l.map Tm.cl=m.map Tm.cl→Xl l=Xl m
 | [],[],_=>rfl
 | [],_::_,h=>by simp at h
 |_::_,[],h=>by simp at h
 |a::r,b::q,h=>by simp only[List.map_cons,List.cons.injEq]at h;simp only[Xl,XW h.1,Zdr h.2]
theorem ZnJ {m:List Tm} (h:l.map Tm.cl=m.map Tm.cl):(sumG true l).2=(sumG false m).2∧(sumG true l).1.cl=(sumG false m).1.cl:=by
 have hn:l.length=m.length:=by simpa using congrArg List.length h
 have hs:(ZS l []).map Tm.cl=(ZS m []).map Tm.cl:=by have a:=ZbG l [];have b:=ZbG m [];rw[List.map_nil]at a b;rw[← a, ← b,XI,XI,h]
 have ht:(sumT true (ZdZ true (ZS l []))).cl=(sumT false (ZdZ false (ZS m []))).cl:=by show(sumT true (clL (ZS l []))).cl=(sumT false (ZS m [])).cl;rw[XI,hs, ← XI];exact ZnW _ _ _
 unfold sumG;rw[hn,Zdr h,XW ht];split; · exact⟨rfl,rfl⟩
 split; · exact⟨rfl,rfl⟩
 split; · exact⟨rfl,rfl⟩
 exact⟨rfl,ht⟩
def clP (x:Pw):Pw:=(x.1.cl,x.2)
theorem Zb4:∀(l:List Pw) (t:Tm) (n:Int),(WV l t n).map clP=WV (l.map clP) t.cl n
 | [],t,n=>rfl
 |x::r,t,n=>by simp only[WV,List.map_cons];have e1:(clP x).1.cmp t.cl=x.1.cmp t:=Ud _ _;have e2:t.cl.cmp (clP x).1=t.cmp x.1:=Ud _ _;have e3:(clP x).2=x.2:=rfl;rw[e1,e2,e3];split;{simp only[List.map_cons,Zb4 r t n]};{split;{rfl};{split<;>rfl}}
mutual
theorem Zmr:∀(t:Tm) (n:Int) (l:List Pw),t.cl.col n (l.map clP)=(t.col n l).map (List.map clP)
 | .mk k nm s b kz,n,l=>by simp only[Tm.cl,Tm.col,Wl];split;{split;{exact Zjp kz _ l};{rfl}};{simp only[Option.map_some];rw[Zb4];rfl}
theorem Zjp:∀(ts:List Tm) (n:Int) (l:List Pw),colL (clL ts) n (l.map clP)=(colL ts n l).map (List.map clP)
 | [],n,l=>by simp only[clL,colL,Option.map_some]
 |t::r,n,l=>by
  simp only[clL,colL,Zmr t n l];cases t.col n l with
  | none=>rfl
  | some l'=>exact Zjp r n l'
end
